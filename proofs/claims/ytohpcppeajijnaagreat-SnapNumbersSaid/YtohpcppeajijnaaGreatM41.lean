/- permafrostref10.Encode. The reference's Save. -/
import Derived.Test.YtohpcppeajijnaaGreatM38
import Derived.Test.YtohpcppeajijnaaGreatM14
import Derived.Test.YtohpcppeajijnaaGreatM20
import Derived.Test.YtohpcppeajijnaaGreatM19
import Derived.Test.YtohpcppeajijnaaGreatM31
import Derived.BigQuiet
import Derived.Deep.QuietTactic
namespace Go.Proofs.YtohpcppeajijnaaGreat
open Go.ChangeShapes Go.WideShapes Go.ChangeAt Go.RowKit
set_option linter.unusedVariables false
set_option linter.unusedSimpArgs false
theorem qH {w:World} {B B':Nat} {e:TypeId} {k:Nat} {v:Value} {n:Nat} {xs:List Value} (h:w.ownsRow B' e k v n xs) (hb:B≤B'):w.ownsRow B e k v n xs:=by
 obtain⟨h1,h2⟩:=h
 refine⟨h1,h2.imp id ?_⟩
 rintro ⟨g,cap,cur,e1,e2,e3⟩
 exact⟨g,cap,cur,e1,Nat.le_trans hb e2,e3⟩
theorem bR {w:World} {B:Nat} {a:Option Addr} {c:Nat} {bs:List UInt8} (h:w.ownsRow B 5 1 (.slice a bs.length c) bs.length (bs.map bv)):ak (fun x=>B≤x∧x<w.heap.size) w a bs.length (bs.map bv):=(ak.ku h).2
theorem NA (k:Int) (x:bf):oH k x=(((((dU k 2++dU x.kind 1)++dU x.links 2)++dU x.b.length 2)++dU x.aS 8)++rz x.closed):=rfl
set_option maxHeartbeats 4000000 in
theorem DI (k:Int) (x:bf) (h1:DY x) (hk:0≤k) (hk':k≤65535) (w:World):Calls Tryz.prog 92 #[kH k x] w (dS w (oH k x)):=by
 obtain⟨l0,l1⟩:=h1.links
 obtain⟨t0,t1⟩:=h1.aS
 have hb:=h1.size
 have hkd:0≤x.kind∧x.kind≤2:=by rcases h1.kind with h|h<;>omega
 obtain⟨Zw,kd1⟩:=hkd
 rw[NA]
 obtain⟨n,hn⟩:∃n:Nat,n=x.b.length:=⟨_,rfl⟩
 rw[←hn]at hb
 unfold kH
 rw[←hn]
 clear h1 hn
 obtain⟨L1,hL1⟩:∃L,L=dU k 2:=⟨_,rfl⟩
 have hl1:L1.length=2:=by rw[hL1];rfl
 have kR:Hid (∀w':World,Calls Tryz.prog 90 #[.slice none 0 0, .int .i64 k] w' (dS w' L1)):=fun w'=>by rw[hL1];exact gX (S:=fun _=>True) none 0 0 [] k w' (ak.nil _ _ _) (by omega) hk (by omega)
 obtain⟨L2,hL2⟩:∃L,L=L1++dU x.kind 1:=⟨_,rfl⟩
 have hl2:L2.length=3:=by rw[hL2,List.length_append,hl1];rfl
 have HS2:Hid (∀(B:Nat) (w':World) (a:Option Addr) (c:Nat),w'.ownsRow B 5 1 (.slice a L1.length c) L1.length (L1.map bv)→Calls Tryz.prog 139 #[.slice a L1.length c, .int .i64 x.kind] w' (dS w' L2)):=fun B w' a c h=>by rw[hL2];exact nN a _ c _ x.kind w' (bR h) (by omega) Zw (by omega)
 obtain⟨L3,hL3⟩:∃L,L=L2++dU x.links 2:=⟨_,rfl⟩
 have hl3:L3.length=5:=by rw[hL3,List.length_append,hl2];rfl
 have Aj:Hid (∀(B:Nat) (w':World) (a:Option Addr) (c:Nat),w'.ownsRow B 5 1 (.slice a L2.length c) L2.length (L2.map bv)→Calls Tryz.prog 90 #[.slice a L2.length c, .int .i64 x.links] w' (dS w' L3)):=fun B w' a c h=>by rw[hL3];exact gX a _ c _ x.links w' (bR h) (by omega) l0 (by omega)
 obtain⟨L4,hL4⟩:∃L,L=L3++dU (n:Int) 2:=⟨_,rfl⟩
 have hl4:L4.length=7:=by rw[hL4,List.length_append,hl3];rfl
 have nY:Hid (∀(B:Nat) (w':World) (a:Option Addr) (c:Nat),w'.ownsRow B 5 1 (.slice a L3.length c) L3.length (L3.map bv)→Calls Tryz.prog 90 #[.slice a L3.length c, .int .i64 (n:Int)] w' (dS w' L4)):=fun B w' a c h=>by rw[hL4];exact gX a _ c _ (n:Int) w' (bR h) (by omega) (by omega) (by omega)
 obtain⟨L5,hL5⟩:∃L,L=L4++dU x.aS 8:=⟨_,rfl⟩
 have hl5:L5.length=15:=by rw[hL5,List.length_append,hl4];rfl
 have xu:Hid (∀(B:Nat) (w':World) (a:Option Addr) (c:Nat),w'.ownsRow B 5 1 (.slice a L4.length c) L4.length (L4.map bv)→Calls Tryz.prog 141 #[.slice a L4.length c, .int .u64 x.aS] w' (dS w' L5)):=fun B w' a c h=>by rw[hL5];exact nO a _ c _ x.aS w' (bR h) (by omega) t0 (by omega)
 obtain⟨L6,hL6⟩:∃L,L=L5++rz x.closed:=⟨_,rfl⟩
 have UE:L6.length=16:=by rw[hL6,List.length_append,hl5];rfl
 have zZ:Hid (∀(B:Nat) (w':World) (a:Option Addr) (c:Nat),w'.ownsRow B 5 1 (.slice a L5.length c) L5.length (L5.map bv)→Calls Tryz.prog 140 #[.slice a L5.length c, .bool x.closed] w' (dS w' L6)):=fun B w' a c h=>by rw[hL6];exact Du a _ c _ x.closed w' (bR h) (by omega)
 rw[←hL1,←hL2,←hL3,←hL4,←hL5,←hL6]
 clear hL6 hL5 hL4 hL3 hL2 hL1
 clear hl1 hl2 hl3 hl4 hl5 UE
 have HQ:Hid (∀w',Below (w.alloc (.cells #[.int .i64 k, .int .i64 x.kind, .int .i64 x.links, .int .i64 (n:Int), .int .u64 x.aS, .bool x.closed] 98)).heap.size (w.alloc (.cells #[.int .i64 k, .int .i64 x.kind, .int .i64 x.links, .int .i64 (n:Int), .int .u64 x.aS, .bool x.closed] 98)) w'→∀j,w'.cell? ⟨w.heap.size,j,none⟩=(#[.int .i64 k, .int .i64 x.kind, .int .i64 x.links, .int .i64 (n:Int), .int .u64 x.aS, .bool x.closed]:Array Value)[j]?):=fun w' hb j=>by
  rw[hb.cell (p:=⟨w.heap.size,j,none⟩) (by simp)]
  exact f_ (MapKept.heap_alloc w _).1 j
 have xC:=Lib.hid (wall w (.cells #[.int .i64 k, .int .i64 x.kind, .int .i64 x.links, .int .i64 (n:Int), .int .u64 x.aS, .bool x.closed] 98))
 go_enter Tryz.func92,Tryz.ntmps92
 go_wp2_with fail
 generalize (w.alloc (.cells #[.int .i64 k, .int .i64 x.kind, .int .i64 x.links, .int .i64 (n:Int), .int .u64 x.aS, .bool x.closed] 98))=wa at*
 have hza:=xC.out.size
 refine wp_region_noPanic ?_
 refine wp_region_held_drew (S:=(fun w'=>w'.cell? ⟨w.heap.size,0,none⟩=some (.int .i64 k)∧w'.cell? ⟨w.heap.size,1,none⟩=some (.int .i64 x.kind)∧w'.cell? ⟨w.heap.size,2,none⟩=some (.int .i64 x.links))) (by kernel_rfl) ?_ (fun hS=> ?_)
 ·exact⟨HQ.out _ (Below.refl _ _).drew 0,HQ.out _ (Below.refl _ _).drew 1,HQ.out _ (Below.refl _ _).drew 2⟩
 refine bH 0 (hS:=hS) (h:= ?_)
 refine bH 1 (hS:=hS) (h:= ?_)
 refine bH 3 (hS:=hS) (h:= ?_)
 refine bH 4 (hS:=hS) (h:= ?_)
 refine bH 6 (hS:=hS) (h:= ?_)
 refine bH 7 (hS:=hS) (h:= ?_)
 refine rT 2 (h:=fun K hK=> ?_)
 go_simp
 (with_reducible refine(kR.out _).mono ?_)
 rintro e w1 ⟨a1,c1,rfl,hown1,hb1'⟩
 have hb1:Below wa.heap.size wa w1:=(Below.refl _ _).drew.trans hb1'
 go_simp
 refine hK.out _ _ (⟨HQ.out _ hb1 0,HQ.out _ hb1 1,HQ.out _ hb1 2⟩) (fun hS=> ?_)
 clear hK K
 try simp only[Act.put,List.setIfInBounds_toArray,List.set_cons_zero,List.set_cons_succ]
 refine rT 5 (h:=fun K hK=> ?_)
 go_simp
 (with_reducible refine(HS2.out _ _ _ _ hown1).mono ?_)
 rintro e w2 ⟨a2,c2,rfl,hown2,hb2'⟩
 have hb2:Below wa.heap.size wa w2:=hb1.trans (hb2'.mono hb1.size)
 go_simp
 refine hK.out _ _ (⟨HQ.out _ hb2 0,HQ.out _ hb2 1,HQ.out _ hb2 2⟩) (fun hS=> ?_)
 clear hK K
 try simp only[Act.put,List.setIfInBounds_toArray,List.set_cons_zero,List.set_cons_succ]
 refine rT 8 (h:=fun K hK=> ?_)
 go_simp
 (with_reducible refine(Aj.out _ _ _ _ hown2).mono ?_)
 rintro e w3 ⟨a3,c3,rfl,hown3,YJ⟩
 have hb3:Below wa.heap.size wa w3:=hb2.trans (YJ.mono hb2.size)
 go_simp
 refine hK.out _ _ (⟨HQ.out _ hb3 0,HQ.out _ hb3 1,HQ.out _ hb3 2⟩) (fun hS=> ?_)
 clear hK K
 try simp only[Act.put,List.setIfInBounds_toArray,List.set_cons_zero,List.set_cons_succ]
 refine rT 9 (h:=fun K hK=> ?_)
 go_simp
 refine hK.out _ _ (⟨HQ.out _ hb3 0,HQ.out _ hb3 1,HQ.out _ hb3 2⟩) (fun hS=> ?_)
 clear hK K
 try simp only[Act.put,List.setIfInBounds_toArray,List.set_cons_zero,List.set_cons_succ]
 refine wpAnyH_done (by kernel_rfl) ?_ _
 refine NoPanic.normal ?_
 go_wp2_with fail
 have Q5:w3.drew.ownsRow w2.heap.size 5 1 (.slice a3 L3.length c3) L3.length (L3.map bv):=hown3
 refine wp_region_noPanic ?_
 refine wp_region_held_drew (S:=(fun w'=>w'.cell? ⟨w.heap.size,3,none⟩=some (.int .i64 (n:Int))∧w'.cell? ⟨w.heap.size,4,none⟩=some (.int .u64 x.aS)∧w'.cell? ⟨w.heap.size,5,none⟩=some (.bool x.closed))) (by kernel_rfl) ?_ (fun hS=> ?_)
 ·exact⟨HQ.out _ hb3.drew 3,HQ.out _ hb3.drew 4,HQ.out _ hb3.drew 5⟩
 refine bH 0 (hS:=hS) (h:= ?_)
 refine bH 1 (hS:=hS) (h:= ?_)
 refine bH 2 (hS:=hS) (h:= ?_)
 refine bH 4 (hS:=hS) (h:= ?_)
 refine bH 5 (hS:=hS) (h:= ?_)
 refine bH 7 (hS:=hS) (h:= ?_)
 refine bH 8 (hS:=hS) (h:= ?_)
 refine rT 3 (h:=fun K hK=> ?_)
 go_simp
 (with_reducible refine(nY.out _ _ _ _ Q5).mono ?_)
 rintro e w4 ⟨a4,c4,rfl,kI,Lg⟩
 have hb4:Below wa.heap.size wa w4:=hb3.drew.trans (Lg.mono hb3.size)
 go_simp
 refine hK.out _ _ (⟨HQ.out _ hb4 3,HQ.out _ hb4 4,HQ.out _ hb4 5⟩) (fun hS=> ?_)
 clear hK K
 try simp only[Act.put,List.setIfInBounds_toArray,List.set_cons_zero,List.set_cons_succ]
 refine rT 6 (h:=fun K hK=> ?_)
 go_simp
 (with_reducible refine(xu.out _ _ _ _ kI).mono ?_)
 rintro e w5 ⟨a5,c5,rfl,hown5,NC⟩
 have hb5:Below wa.heap.size wa w5:=hb4.trans (NC.mono hb4.size)
 go_simp
 refine hK.out _ _ (⟨HQ.out _ hb5 3,HQ.out _ hb5 4,HQ.out _ hb5 5⟩) (fun hS=> ?_)
 clear hK K
 try simp only[Act.put,List.setIfInBounds_toArray,List.set_cons_zero,List.set_cons_succ]
 refine rT 9 (h:=fun K hK=> ?_)
 go_simp
 (with_reducible refine(zZ.out _ _ _ _ hown5).mono ?_)
 rintro e w6 ⟨a6,c6,rfl,hown6,ND⟩
 have hb6:Below wa.heap.size wa w6:=hb5.trans (ND.mono hb5.size)
 go_simp
 refine hK.out _ _ (⟨HQ.out _ hb6 3,HQ.out _ hb6 4,HQ.out _ hb6 5⟩) (fun hS=> ?_)
 clear hK K
 try simp only[Act.put,List.setIfInBounds_toArray,List.set_cons_zero,List.set_cons_succ]
 refine rT 10 (h:=fun K hK=> ?_)
 go_simp
 refine hK.out _ _ (⟨HQ.out _ hb6 3,HQ.out _ hb6 4,HQ.out _ hb6 5⟩) (fun hS=> ?_)
 clear hK K
 try simp only[Act.put,List.setIfInBounds_toArray,List.set_cons_zero,List.set_cons_succ]
 refine wpAnyH_done (by kernel_rfl) ?_ _
 refine NoPanic.normal ?_
 go_wp2_with fail
 go_ret
 exact⟨a6,c6,rfl,qH hown6 (by have:=hb5.size;have:=xC.out.size;omega),xC.out.trans (hb6.mono xC.out.size)⟩
def NG (e:iw):List UInt8:=mZ e.2.1++dU e.2.2 2
def kK (E:List iw) (id:Int) (k:Nat):List UInt8:=((E.take k).filter fun e=>decide (e.1=id)).flatMap NG
def nC (E:List iw) (id:Int) (k:Nat):Nat:=((E.take k).filter fun e=>decide (e.1=id)).length
theorem Lh {E:List iw} {id:Int} {k:Nat} {e:iw} (hx:E[k]? =some e) (he:e.1=id):kK E id (k+1)=kK E id k++mZ e.2.1++dU e.2.2 2∧nC E id (k+1)=nC E id k+1:=by
 obtain⟨hk,h⟩:=List.getElem?_eq_some_iff.1 hx
 unfold kK nC
 rw[List.take_succ_eq_append_getElem hk,List.filter_append,h]
 simp[he,NG]
theorem NH {E:List iw} {id:Int} {k:Nat} {e:iw} (hx:E[k]? =some e) (he:e.1≠id):kK E id (k+1)=kK E id k∧nC E id (k+1)=nC E id k:=by
 obtain⟨hk,h⟩:=List.getElem?_eq_some_iff.1 hx
 unfold kK nC
 rw[List.take_succ_eq_append_getElem hk,List.filter_append,h]
 simp[he]
theorem Li {T:aI} {id:Int} {x:bf} (hs:aJ gL T) (hx:aF id T=some x) {k:Nat} (hk:(aQ T).length≤k):kK (aQ T) id k=x.names.flatMap LQ∧nC (aQ T) id k=x.names.length:=by
 unfold kK nC
 rw[List.take_of_length_le hk,EA hs hx,List.length_map,List.flatMap_map]
 exact⟨rfl,rfl⟩
theorem GZ {E:List iw} (hg:∀e∈E,e.2.1.length≤16) (id:Int) (k:Nat):(kK E id k).length≤20*k∧nC E id k≤k:=by
 have h2:(E.take k).length≤k:=List.length_take_le _ _
 have h3:=List.length_filter_le (fun e:iw=>decide (e.1=id)) (E.take k)
 refine⟨?_,by unfold nC;omega⟩
 have h1:∀L:List iw,(∀e∈L,e.2.1.length≤16)→(L.flatMap NG).length≤20*L.length:=fun L hL=>by
  induction L with
  |nil=>simp
  |cons e r ih=>
   have h4:=hL e (by simp)
   have h5:=ih fun y hy=>hL y (by simp[hy])
   simp only[List.flatMap_cons,List.length_append,List.length_cons,NG,jV,bJ]
   omega
 have h6:=h1 ((E.take k).filter fun e=>decide (e.1=id)) fun e he=>hg e (List.mem_of_mem_take (List.mem_filter.1 he).1)
 unfold kK
 omega
def nP (T:aI) (k:Nat):List UInt8:=dU T.length 2++(T.take k).flatMap fun q=>lY q.1 q.2
theorem G5 {T:aI} {k:Nat} {q:Int×bf} (hx:T[k]? =some q):nP T (k+1)=nP T k++lY q.1 q.2:=by
 obtain⟨hk,h⟩:=List.getElem?_eq_some_iff.1 hx
 unfold nP
 rw[List.take_succ_eq_append_getElem hk,List.flatMap_append,h,List.flatMap_cons,List.flatMap_nil,List.append_nil,List.append_assoc]
theorem Lj {T:aI} {k:Nat} (hk:T.length≤k):nP T k=fq T:=by
 unfold nP fq
 rw[List.take_of_length_le hk]
theorem Ll {T:aI} (hT:dR T) (k:Nat):(nP T k).length≤6000000:=by
 have h1:=kT hT (T.take k) (fun q hq=>List.mem_of_mem_take hq)
 have h2:=hT.len
 have h3:(T.take k).length≤T.length:=by rw[List.length_take];omega
 unfold nP
 rw[List.length_append,bJ]
 omega
section
variable {F:Nat→Prop} {r:Nat} {T:aI}
set_option maxRecDepth 100000 in
set_option maxHeartbeats 16000000 in
theorem yL (w:World) (h:jr F w r T) (hT:dR T):Calls Tryz.prog 32 #[ptr r] w (dS w (fq T)):=by
 obtain⟨aN,cN,aD,cD,aE,cE,h1,h2,h3,h4,hN,hD,hE,-⟩:=h.head
 have hrw:=h.low r h.own
 have hlen:=hT.len
 have hef:=lG hT
 have HT:=Lib.hid hT
 have HG:Hid (∀e∈aQ T,e.2.1.length≤16):=fun e he=>by
  obtain⟨q,hq,hk,hm⟩:=zF he
  exact lZ ((hT.each _ _ (bL dD hT.sorted hq)).good _ hm)
 have YB:Hid (∀k,T.length≤k→nP T k=fq T):=fun k hk=>Lj hk
 have hdl:(T.map fun q=>q.2.b).length=T.length:=List.length_map _
 rw[hdl]at h1 h3
 obtain⟨N,hNe⟩:∃N,N=T.length:=⟨_,rfl⟩
 obtain⟨E,hEe⟩:∃E,E=aQ T:=⟨_,rfl⟩
 rw[←hEe]at h1 h4 hE hef HG
 obtain⟨M,hMe⟩:∃M,M=E.length:=⟨_,rfl⟩
 rw[←hNe]at h1 h2 h3 hN hlen
 rw[←hMe]at h1 h4 hE hef
 have fV:=Lib.hid hNe
 have N8:=Lib.hid hMe
 have SH:=Lib.hid hEe
 have HRN:=Lib.hid hN
 have HRD:=Lib.hid hD
 have SS:=Lib.hid hE
 have HC:Hid (∀w',Below w.heap.size w w'→w'.cell? ⟨r,0,none⟩=some (.slice aN N cN)∧w'.cell? ⟨r,1,none⟩=some (.slice aD N cD)∧w'.cell? ⟨r,2,none⟩=some (.slice aE M cE)):=fun w' hb=>by
  have hh:=(hb.block r hrw).trans h1
  refine⟨?_,?_,?_⟩<;>simp[World.cell?,hh]
 have c0:=(HC.out w (Below.refl _ _)).1
 have Vr:Hid (∀w':World,Calls Tryz.prog 90 #[.slice none 0 0, .int .i64 (N:Int)] w' (dS w' (nP T 0))):=fun w'=>by
  have e1:nP T 0=[]++dU (N:Int) 2:=by unfold nP;rw[hNe];simp
  rw[e1]
  exact gX (S:=fun _=>True) none 0 0 [] (N:Int) w' (ak.nil _ _ _) (by omega) (by omega) (by omega)
 clear h hT h1 hN hD hE hdl hNe hMe hEe
 go_enter Tryz.func32,Tryz.ntmps32
 go_wp2_with fail
 (with_reducible refine(Vr.out _).mono ?_)
 rintro e w1 ⟨a1,c1,rfl,hown1,hb1⟩
 have mg:=Lib.hid hown1
 have HB1:=Lib.hid hb1
 clear hown1 hb1 c0
 go_wp2_with fail
 go_loopw [3,4] (fun bvv iv wr=>∃(k:Nat) (a:Option Addr) (c:Nat),k≤N∧iv= .int .i64 k∧bvv= .slice a (nP T k).length c∧wr.ownsRow w.heap.size 5 1 (.slice a (nP T k).length c) (nP T k).length ((nP T k).map bv)∧Below w.heap.size w wr) (fun _ iv _=>N-(intOf iv).toNat)
 case atStart=>exact⟨0,a1,c1,Nat.zero_le _,rfl,rfl,mg.out,HB1.out⟩
 case round=>
  obtain⟨k,a,c,hk,rfl,rfl,hown,hB⟩:=hrel
  have VH:=hB.size
  have c0:=(HC.out _ hB).1
  by_cases hlt:k<N
  ·have hd1:decide (k<N)=true:=by simpa using hlt
   have hx:T[k]? =some (T[k]'(by have:=fV.out;omega)):=List.getElem?_eq_getElem _
   obtain⟨q,hq⟩:∃q,q=T[k]'(by have:=fV.out;omega):=⟨_,rfl⟩
   rw[←hq]at hx
   have HX:=Lib.hid hx
   have VO:aF q.1 T=some q.2:=bL dD HT.out.sorted (List.mem_of_getElem? hx)
   have hok:=HT.out.each _ _ VO
   obtain⟨id0,id1⟩:=HT.out.ids _ _ VO
   have hsz:=hok.size
   obtain⟨bN,oN,rfl,-,hbN,-,TS⟩:=HRN.out.wide dG fV.out.symm hx (by omega)
   have HNC:Hid (∀w',Below w.heap.size w w'→w'.cell? ⟨bN,oN+k*6,none⟩=some (.int .i64 q.1)∧w'.cell? ⟨bN,oN+k*6+1,none⟩=some (.int .i64 q.2.kind)∧w'.cell? ⟨bN,oN+k*6+2,none⟩=some (.int .i64 q.2.links)∧w'.cell? ⟨bN,oN+k*6+3,none⟩=some (.int .i64 q.2.b.length)∧w'.cell? ⟨bN,oN+k*6+4,none⟩=some (.int .u64 q.2.aS)∧w'.cell? ⟨bN,oN+k*6+5,none⟩=some (.bool q.2.closed)):=fun w' hb=>by
    have hc:=fun j hj=>(hb.cell (p:=⟨bN,oN+k*6+j,none⟩) hbN).trans (TS j hj)
    exact⟨hc 0 (by omega),hc 1 (by omega),hc 2 (by omega),hc 3 (by omega),hc 4 (by omega),hc 5 (by omega)⟩
   obtain⟨vs,hvr,hve⟩:=HRD.out
   obtain⟨aB,cB,hvk,hcap,hrb⟩:=hve k q.2.b (by rw[List.getElem?_map,hx];rfl)
   obtain⟨bD,oD,rfl,-,hbD,hcD⟩:=hvr.at_ (by rw[List.length_map,←fV.out];omega)
   have HDC:Hid (∀w',Below w.heap.size w w'→w'.cell? ⟨bD,oD+k,none⟩=some (.slice aB q.2.b.length cB)):=fun w' hb=>
    ((hb.cell (p:=⟨bD,oD+k,none⟩) hbD).trans (hcD k (by rw[List.length_map,←fV.out];omega))).trans hvk
   have OD:Hid (∀w',Below w.heap.size w w'→ak (Off F r) w' aB q.2.b.length (q.2.b.map bv)):=fun w' hb=>hrb.below hb (Nat.le_refl _)
   have hl0:=Ll HT.out k
   obtain⟨L0,hL0⟩:∃L,L=nP T k:=⟨_,rfl⟩
   rw[←hL0]at hown hl0⊢
   obtain⟨EN,VP⟩:∃L,L=oH q.1 q.2:=⟨_,rfl⟩
   have hle:EN.length=16:=by rw[VP];exact jm _ _
   obtain⟨L1,hL1⟩:∃L,L=L0++mZ EN:=⟨_,rfl⟩
   have hl1:L1.length=L0.length+18:=by rw[hL1,List.length_append,jV,hle]
   obtain⟨L2,hL2⟩:∃L,L=L1++mZ q.2.b:=⟨_,rfl⟩
   obtain⟨nb,hnb⟩:∃n,n=q.2.b.length:=⟨_,rfl⟩
   rw[←hnb]at hsz HNC HDC OD
   have hl2:L2.length=L0.length+20+nb:=by rw[hL2,List.length_append,jV,hl1,←hnb];omega
   have LV:Hid (∀w':World,Calls Tryz.prog 92 #[.agg #[.int .i64 q.1, .int .i64 q.2.kind, .int .i64 q.2.links, .int .i64 nb, .int .u64 q.2.aS, .bool q.2.closed]] w' (dS w' EN)):=fun w'=>by
    rw[VP,hnb]
    exact DI q.1 q.2 hok id0 id1 w'
   have ML:Hid (∀(B B':Nat) (w':World) (a a':Option Addr) (c c':Nat),w'.ownsRow B 5 1 (.slice a L0.length c) L0.length (L0.map bv)→w'.ownsRow B' 5 1 (.slice a' EN.length c') EN.length (EN.map bv)→Calls Tryz.prog 91 #[.slice a L0.length c, .slice a' EN.length c'] w' (dS w' L1)):=fun B B' w' a a' c c' h h'=>by
    rw[hL1]
    exact j_ a _ c L0 a' _ c' EN w' (bR h) (bR h') (by omega) (by omega)
   have O_:Hid (∀(B:Nat) (w':World) (a:Option Addr) (c:Nat),w'.ownsRow B 5 1 (.slice a L1.length c) L1.length (L1.map bv)→Below w.heap.size w w'→Calls Tryz.prog 91 #[.slice a L1.length c, .slice aB nb cB] w' (dS w' L2)):=fun B w' a c h hb=>by
    rw[hL2]
    have h9:=j_ a _ c L1 aB nb cB q.2.b w' (bR h) (OD.out w' hb) (by omega) (by omega)
    rw[hnb]at h9⊢
    exact h9
   have Vp:=Lib.hid (Li HT.out.sorted VO (k:=M) (by rw[N8.out,SH.out];exact Nat.le_refl _))
   rw[←SH.out]at Vp
   have SQ:=Lib.hid (fun j=>GZ HG.out q.1 j)
   obtain⟨cb,hcb⟩:∃L,L=kK E q.1 M:=⟨_,rfl⟩
   obtain⟨cn,hcn⟩:∃n,n=nC E q.1 M:=⟨_,rfl⟩
   obtain⟨UF,YK⟩:=SQ.out M
   rw[←hcb]at UF
   rw[←hcn]at YK
   obtain⟨L3,hL3⟩:∃L,L=L2++dU (cn:Int) 2:=⟨_,rfl⟩
   have hl3:L3.length=L0.length+22+nb:=by rw[hL3,List.length_append,bJ,hl2];omega
   have Ru:Hid (∀(B:Nat) (w':World) (a:Option Addr) (c:Nat),w'.ownsRow B 5 1 (.slice a L2.length c) L2.length (L2.map bv)→Calls Tryz.prog 90 #[.slice a L2.length c, .int .i64 (cn:Int)] w' (dS w' L3)):=fun B w' a c h=>by
    rw[hL3]
    exact gX a _ c L2 (cn:Int) w' (bR h) (by omega) (by omega) (by omega)
   have UG:Hid (nP T (k+1)=L3++cb):=by
    show nP T (k+1)=L3++cb
    rw[G5 hx,←hL0,hL3,hL2,hL1,VP,hcb,hcn,Vp.out.1,Vp.out.2]
    unfold lY
    simp only[List.append_assoc]
   have HO:=Lib.hid hown
   have HB:=Lib.hid hB
   have HKL:=Lib.hid hlt
   have HL3:=Lib.hid hl3
   have HL2:=Lib.hid hl2
   have HCB:=Lib.hid hcb
   have HCN:=Lib.hid hcn
   have hk0:(0:Int)≤(k:Int):=by omega
   have hk1:(k:Int)<(N:Int):=by omega
   have hl0':=hl0
   have HH:Hid (∀w',Below w.heap.size w w'→w'.cell? ⟨r,0,none⟩=some (.slice (some ⟨bN,oN,none⟩) N cN)∧w'.cell? ⟨r,1,none⟩=some (.slice (some ⟨bD,oD,none⟩) N cD)∧w'.cell? ⟨bN,oN+k*6,none⟩=some (.int .i64 q.1)∧w'.cell? ⟨bN,oN+k*6+1,none⟩=some (.int .i64 q.2.kind)∧w'.cell? ⟨bN,oN+k*6+2,none⟩=some (.int .i64 q.2.links)∧w'.cell? ⟨bN,oN+k*6+3,none⟩=some (.int .i64 nb)∧w'.cell? ⟨bN,oN+k*6+4,none⟩=some (.int .u64 q.2.aS)∧w'.cell? ⟨bN,oN+k*6+5,none⟩=some (.bool q.2.closed)∧w'.cell? ⟨bD,oD+k,none⟩=some (.slice aB nb cB)):=fun w' hb=>by
    obtain⟨y0,y1,-⟩:=HC.out w' hb
    obtain⟨n0,n1,n2,n3,n4,n5⟩:=HNC.out w' hb
    exact⟨y0,y1,n0,n1,n2,n3,n4,n5,HDC.out w' hb⟩
   clear hx hq VO hok hvr hve hvk hcap hrb hcD TS hL0 VP hle hL1 hl1 hL2 hl2 hnb hcb hcn hL3 hl3 hown hB hlt hl0
   go_wp2_with fail
   refine wp_region_noPanic ?_
   refine wp_region_held_drew (S:=(fun w'=>w'.cell? ⟨r,0,none⟩=some (.slice (some ⟨bN,oN,none⟩) N cN)∧w'.cell? ⟨r,1,none⟩=some (.slice (some ⟨bD,oD,none⟩) N cD)∧w'.cell? ⟨bN,oN+k*6,none⟩=some (.int .i64 q.1)∧w'.cell? ⟨bN,oN+k*6+1,none⟩=some (.int .i64 q.2.kind)∧w'.cell? ⟨bN,oN+k*6+2,none⟩=some (.int .i64 q.2.links)∧w'.cell? ⟨bN,oN+k*6+3,none⟩=some (.int .i64 nb)∧w'.cell? ⟨bN,oN+k*6+4,none⟩=some (.int .u64 q.2.aS)∧w'.cell? ⟨bN,oN+k*6+5,none⟩=some (.bool q.2.closed)∧w'.cell? ⟨bD,oD+k,none⟩=some (.slice aB nb cB))) (by kernel_rfl) ?_ (fun hS=> ?_)
   ·exact HH.out _ HB.out.drew
   refine bH 0 (hS:=hS) (h:= ?_)
   refine bH 1 (hS:=hS) (h:= ?_)
   refine bH 2 (hS:=hS) (h:= ?_)
   refine bH 3 (hS:=hS) (h:= ?_)
   refine bH 4 (hS:=hS) (h:= ?_)
   refine bH 5 (hS:=hS) (h:= ?_)
   refine bH 6 (hS:=hS) (h:= ?_)
   refine bH 7 (hS:=hS) (h:= ?_)
   refine bH 10 (hS:=hS) (h:= ?_)
   refine bH 11 (hS:=hS) (h:= ?_)
   refine bH 12 (hS:=hS) (h:= ?_)
   refine bH 13 (hS:=hS) (h:= ?_)
   refine bH 14 (hS:=hS) (h:= ?_)
   refine bH 15 (hS:=hS) (h:= ?_)
   refine bH 16 (hS:=hS) (h:= ?_)
   refine rT 8 (h:=fun K hK=> ?_)
   go_simp
   (with_reducible refine(LV.out _).mono ?_)
   rintro e w4 ⟨a4,c4,rfl,kI,Lg⟩
   have hb4:Below w.heap.size w w4:=HB.out.drew.trans (Lg.mono VH)
   have JC:=Lib.hid kI
   have Np:=Lib.hid (own_below (w:=wr.drew) (w':=w4) HO.out Lg)
   clear kI
   go_simp
   refine hK.out _ _ (HH.out _ hb4) (fun hS=> ?_)
   clear hK K
   try simp only[Act.put,List.setIfInBounds_toArray,List.set_cons_zero,List.set_cons_succ]
   refine rT 9 (h:=fun K hK=> ?_)
   go_simp
   (with_reducible refine(ML.out _ _ _ _ _ _ _ Np.out JC.out).mono ?_)
   rintro e w5 ⟨a5,c5,rfl,hown5,NC⟩
   have hb5:Below w.heap.size w w5:=hb4.trans (NC.mono hb4.size)
   have LY:=Lib.hid hown5
   clear hown5
   go_simp
   refine hK.out _ _ (HH.out _ hb5) (fun hS=> ?_)
   clear hK K
   try simp only[Act.put,List.setIfInBounds_toArray,List.set_cons_zero,List.set_cons_succ]
   refine rT 17 (h:=fun K hK=> ?_)
   go_simp
   (with_reducible refine(O_.out _ _ _ _ LY.out hb5).mono ?_)
   rintro e w6 ⟨a6,c6,rfl,hown6,ND⟩
   have hb6:Below w.heap.size w w6:=hb5.trans (ND.mono hb5.size)
   have M0:=Lib.hid (qH hown6 (Nat.zero_le _))
   clear hown6
   go_simp
   refine hK.out _ _ (HH.out _ hb6) (fun hS=> ?_)
   clear hK K
   try simp only[Act.put,List.setIfInBounds_toArray,List.set_cons_zero,List.set_cons_succ]
   refine rT 18 (h:=fun K hK=> ?_)
   go_simp
   refine hK.out _ _ (HH.out _ hb6) (fun hS=> ?_)
   clear hK K
   try simp only[Act.put,List.setIfInBounds_toArray,List.set_cons_zero,List.set_cons_succ]
   refine wpAnyH_done (by kernel_rfl) ?_ _
   refine NoPanic.normal ?_
   have yc:=Lib.hid hb6
   have hs6:=hb6.size
   clear Lg NC ND hb4 hb5 hb6
   go_wp2_with fail
   obtain⟨wo,rfl⟩:∃wo:World,wo=wr:=⟨_,rfl⟩
   go_loopw [5,6,7] (fun nv lv kv wr=>∃(j:Nat) (a:Option Addr) (c:Nat),j≤M∧kv= .int .i64 j∧nv= .int .i64 (nC E q.1 j)∧lv= .slice a (kK E q.1 j).length c∧wr.ownsRow w6.heap.size 5 1 (.slice a (kK E q.1 j).length c) (kK E q.1 j).length ((kK E q.1 j).map bv)∧Below w6.heap.size w6 wr) (fun _ _ kv _=>M-(intOf kv).toNat)
   case atStart=>exact⟨0,none,0,Nat.zero_le _,rfl,rfl,rfl,⟨rfl, .inl ⟨rfl,rfl⟩⟩,Below.refl _ _⟩
   case round=>
    obtain⟨j,a7,c7,hj,rfl,rfl,rfl,nV,tV⟩:=hrel
    have YL:=tV.size
    have hBw:Below w.heap.size w wr:=yc.out.trans (tV.mono hs6)
    have y2:=(HC.out _ hBw).2.2
    obtain⟨hel,hen⟩:=SQ.out j
    by_cases hjm:j<M
    ·have hd2:decide (j<M)=true:=by simpa using hjm
     have hx:E[j]? =some (E[j]'(by have:=N8.out;omega)):=List.getElem?_eq_getElem _
     obtain⟨e,he⟩:∃e,e=E[j]'(by have:=N8.out;omega):=⟨_,rfl⟩
     rw[←he]at hx
     have hnm:=HG.out e (List.mem_of_getElem? hx)
     obtain⟨bE,oE,rfl,-,hbE,-,hcE⟩:=SS.out.wide iL N8.out.symm hx (by omega)
     have YM:Hid (∀w',Below w.heap.size w w'→w'.cell? ⟨bE,oE+j*3,none⟩=some (.int .i64 e.1)∧w'.cell? ⟨bE,oE+j*3+1,none⟩=some (.string (strOf e.2.1))∧w'.cell? ⟨bE,oE+j*3+2,none⟩=some (.int .i64 e.2.2)):=fun w' hb=>by
      have hc:=fun i hi=>(hb.cell (p:=⟨bE,oE+j*3+i,none⟩) hbE).trans (hcE i hi)
      exact⟨hc 0 (by omega),hc 1 (by omega),hc 2 (by omega)⟩
     have y0:=(HH.out _ hBw).1
     have n0:=(HH.out _ hBw).2.2.1
     have e0:=(YM.out _ hBw).1
     have VQ:=Lib.hid hjm
     have hj0:(0:Int)≤(j:Int):=by omega
     have hj1:(j:Int)<(M:Int):=by omega
     have Hz:=Lib.hid nV
     have uQ:=Lib.hid tV
     have HX:=Lib.hid hx
     clear nV tV hx he hcE hjm
     by_cases hp:e.1=q.1
     ·have hpp:(e.1==q.1)=true:=by simpa using hp
      obtain⟨hyb,hyn⟩:=Lh HX.out hp
      obtain⟨C0,hC0⟩:∃L,L=kK E q.1 j:=⟨_,rfl⟩
      obtain⟨C1,Ox⟩:∃L,L=C0++mZ e.2.1:=⟨_,rfl⟩
      obtain⟨C2,hC2⟩:∃L,L=C1++dU e.2.2 2:=⟨_,rfl⟩
      rw[←hC0,←Ox,←hC2]at hyb
      rw[←hC0]at hel Hz⊢
      obtain⟨nm,Q6⟩:∃nm,nm=e.2.1:=⟨_,rfl⟩
      rw[←Q6]at hnm Ox
      have hlc1:C1.length≤20*j+18:=by rw[Ox,List.length_append,jV];omega
      obtain⟨OE,NI⟩:∃OE,OE=e.2.2:=⟨_,rfl⟩
      have hei:0≤OE∧OE≤65535:=by
       have hm:e∈aQ T:=by rw[←SH.out];exact List.mem_of_getElem? HX.out
       obtain⟨x,hx1,hx2⟩:=(jY HT.out.sorted).1 hm
       obtain⟨y,hy⟩:=Option.isSome_iff_exists.1 (HT.out.leads _ x hx1 e.2 hx2).1
       rw[NI]
       exact HT.out.ids _ _ hy
      obtain⟨YN,hei1⟩:=hei
      obtain⟨dn,hdn⟩:∃n,n=nC E q.1 j:=⟨_,rfl⟩
      rw[←hdn]at hen hyn⊢
      have HZ2:Hid (∀(B:Nat) (w':World) (a:Option Addr) (c:Nat),w'.ownsRow B 5 1 (.slice a C1.length c) C1.length (C1.map bv)→Calls Tryz.prog 90 #[.slice a C1.length c, .int .i64 OE] w' (dS w' C2)):=fun B w' a c h=>by
       rw[hC2,←NI]
       exact gX a _ c C1 OE w' (bR h) (by omega) YN (by omega)
      have HZ1:Hid (∀(B:Nat) (w':World) (a:Option Addr) (c:Nat) (a':Option Addr) (c':Nat) (S':Nat→Prop),w'.ownsRow B 5 1 (.slice a C0.length c) C0.length (C0.map bv)→ak S' w' a' nm.length (nm.map bv)→Calls Tryz.prog 91 #[.slice a C0.length c, .slice a' nm.length c'] w' (dS w' C1)):=fun B w' a c a' c' S' h h'=>by
       rw[Ox]
       exact j_ a _ c C0 a' _ c' nm w' (bR h) h' (by omega) (by omega)
      have BQ:Hid (∀w',Below w.heap.size w w'→w'.cell? ⟨r,2,none⟩=some (.slice (some ⟨bE,oE,none⟩) M cE)∧w'.cell? ⟨bE,oE+j*3+1,none⟩=some (.string (strOf nm))∧w'.cell? ⟨bE,oE+j*3+2,none⟩=some (.int .i64 OE)):=fun w' hb=>by
       rw[Q6,NI]
       exact⟨(HC.out w' hb).2.2,(YM.out w' hb).2.1,(YM.out w' hb).2.2⟩
      have UH:=Lib.hid hyb
      have YO:=Lib.hid hyn
      have xB:=Lib.hid hBw
      clear hp hyb hyn hC0 Ox hC2 Q6 NI hdn hBw
      go_wp2_with fail
      go_quiet (fail)
      have CP:Hid (Below w.heap.size w (wr.drewN nq)):=xB.out.trans ⟨rfl,rfl,rfl,Nat.le_refl _,fun _ _=>rfl⟩
      have UJ:Hid (Below w6.heap.size w6 (wr.drewN nq)):=uQ.out.trans ⟨rfl,rfl,rfl,Nat.le_refl _,fun _ _=>rfl⟩
      have YP:Hid ((wr.drewN nq).ownsRow w6.heap.size 5 1 (.slice a7 C0.length c7) C0.length (C0.map bv)):=own_below Hz.out ⟨rfl,rfl,rfl,Nat.le_refl _,fun _ _=>rfl⟩
      clear y0 n0 e0 y2 Hz xB uQ YL
      generalize wr.drewN nq=wq at*
      have hs7:=UJ.out.size
      go_wp2_with fail
      obtain⟨ZH,wc,hrun,hbc,WJ,Oo,hcells⟩:=AL wq.drew nm (by omega)
      have hrow:ak (fun b=>b=wq.heap.size) wc (some ⟨wq.heap.size,0,none⟩) nm.length (nm.map bv):=hcells
      have gZ:=Lib.hid hrow
      have Q7:Below w6.heap.size w6 wc:=UJ.out.drew.trans (hbc.mono hs7)
      have EK:Below w.heap.size w wc:=CP.out.drew.trans (hbc.mono CP.out.size)
      have HOC:Hid (wc.ownsRow w6.heap.size 5 1 (.slice a7 C0.length c7) C0.length (C0.map bv)):=own_below (w:=wq.drew) YP.out hbc
      clear hcells hrow
      refine wp_region_noPanic ?_
      refine wp_region_held_drew (S:=(fun w'=>w'.cell? ⟨r,2,none⟩=some (.slice (some ⟨bE,oE,none⟩) M cE)∧w'.cell? ⟨bE,oE+j*3+1,none⟩=some (.string (strOf nm))∧w'.cell? ⟨bE,oE+j*3+2,none⟩=some (.int .i64 OE))) (by kernel_rfl) ?_ (fun hS=> ?_)
      ·exact BQ.out _ CP.out.drew
      refine bH 0 (hS:=hS) (h:= ?_)
      refine bH 1 (hS:=hS) (h:= ?_)
      refine bH 2 (hS:=hS) (h:= ?_)
      refine bH 3 (hS:=hS) (h:= ?_)
      refine bH 4 (hS:=hS) (h:= ?_)
      refine bH 5 (hS:=hS) (h:= ?_)
      refine bH 6 (hS:=hS) (h:= ?_)
      refine bH 7 (hS:=hS) (h:= ?_)
      refine bH 8 (hS:=hS) (h:= ?_)
      refine bH 11 (hS:=hS) (h:= ?_)
      refine bH 12 (hS:=hS) (h:= ?_)
      refine bH 13 (hS:=hS) (h:= ?_)
      refine bH 14 (hS:=hS) (h:= ?_)
      refine bH 15 (hS:=hS) (h:= ?_)
      refine bH 16 (hS:=hS) (h:= ?_)
      refine bH 17 (hS:=hS) (h:= ?_)
      refine bH 18 (hS:=hS) (h:= ?_)
      refine rT 9 (h:=fun K hK=> ?_)
      go_simp
      refine hK.out _ _ (BQ.out _ EK) (fun hS=> ?_)
      clear hK K
      try simp only[Act.put,List.setIfInBounds_toArray,List.set_cons_zero,List.set_cons_succ]
      refine rT 10 (h:=fun K hK=> ?_)
      go_simp
      (with_reducible refine(HZ1.out _ _ _ _ _ _ _ HOC.out gZ.out).mono ?_)
      rintro e w8 ⟨a8,c8,rfl,kJ,Q8⟩
      have uD:Below w.heap.size w w8:=EK.trans (Q8.mono EK.size)
      have NJ:Below w6.heap.size w6 w8:=Q7.trans (Q8.mono Q7.size)
      have BO:=Lib.hid kJ
      clear kJ
      go_simp
      refine hK.out _ _ (BQ.out _ uD) (fun hS=> ?_)
      clear hK K
      try simp only[Act.put,List.setIfInBounds_toArray,List.set_cons_zero,List.set_cons_succ]
      refine rT 19 (h:=fun K hK=> ?_)
      go_simp
      (with_reducible refine(HZ2.out _ _ _ _ BO.out).mono ?_)
      rintro e w9 ⟨a9,c9,rfl,iK,Q9⟩
      have uy:Below w.heap.size w w9:=uD.trans (Q9.mono uD.size)
      have UK:Below w6.heap.size w6 w9:=NJ.trans (Q9.mono NJ.size)
      have Jp:=Lib.hid (qH iK NJ.size)
      clear iK
      go_simp
      refine hK.out _ _ (BQ.out _ uy) (fun hS=> ?_)
      clear hK K
      try simp only[Act.put,List.setIfInBounds_toArray,List.set_cons_zero,List.set_cons_succ]
      refine rT 20 (h:=fun K hK=> ?_)
      go_simp
      refine hK.out _ _ (BQ.out _ uy) (fun hS=> ?_)
      clear hK K
      try simp only[Act.put,List.setIfInBounds_toArray,List.set_cons_zero,List.set_cons_succ]
      refine wpAnyH_done (by kernel_rfl) ?_ _
      refine NoPanic.normal ?_
      have YQ:=Lib.hid UK
      clear Q8 Q9 uD NJ uy UK hrun hbc Q7 EK
      go_wp2_with fail
      go_roundw
      case rel=>exact⟨j+1,a9,c9,VQ.out,by go_num,by rw[YO.out];go_num,by rw[UH.out],by rw[UH.out];exact Jp.out,YQ.out⟩
      case measure=>have:=VQ.out;simp[intOf];omega
     ·have hpp:(e.1==q.1)=false:=by simpa using hp
      obtain⟨hyb,hyn⟩:=NH HX.out hp
      have UH:=Lib.hid hyb
      have YO:=Lib.hid hyn
      clear hp hyb hyn hBw
      go_wp2_with fail
      go_quiet (fail)
      go_wp2_with fail
      go_roundw
      case rel=>exact⟨j+1,a7,c7,VQ.out,by go_num,by rw[YO.out],by rw[UH.out],by rw[UH.out];exact own_below Hz.out ⟨rfl,rfl,rfl,Nat.le_refl _,fun _ _=>rfl⟩,uQ.out.trans ⟨rfl,rfl,rfl,Nat.le_refl _,fun _ _=>rfl⟩⟩
      case measure=>have:=VQ.out;simp[intOf];omega
    ·have hd2:decide (j<M)=false:=by simpa using hjm
     obtain rfl:j=M:=by omega
     rw[←HCB.out]at nV⊢
     rw[←HCN.out]
     have Hz:=Lib.hid nV
     have xB:=Lib.hid hBw
     have YR:=Lib.hid (own_below M0.out tV)
     clear nV tV hBw hjm hel hen
     go_wp2_with fail
     (with_reducible refine(Ru.out _ _ _ _ YR.out).mono ?_)
     rintro e w8 ⟨a8,c8,rfl,kJ,uD⟩
     have Q_:Below w.heap.size w w8:=xB.out.trans (uD.mono xB.out.size)
     have VR:=Lib.hid ((bR Hz.out).below uD (Nat.le_refl _))
     have BO:=Lib.hid (qH kJ xB.out.size)
     have uw:=Lib.hid Q_
     have HG8:Hid (∀b,(Value.slice a8 L3.length c8).ownBlock=some b→w.heap.size≤b):=fun b hb=>Dt (qH kJ xB.out.size) hb
     obtain⟨i8,hi⟩:∃i,Tryz.prog.info? 5=some i∧i.zero=some (.int .u8 0)∧i.size=1∧i.bytes=1:=info_parts (by kernel_rfl)
     have HI:=Lib.hid hi
     have hl3:=HL3.out
     obtain⟨n3,Ra⟩:∃n,n=L3.length:=⟨_,rfl⟩
     obtain⟨n7,VT⟩:∃n,n=cb.length:=⟨_,rfl⟩
     rw[←Ra]at hl3 BO HG8⊢
     rw[←VT]at VR UF⊢
     have HN3:=Lib.hid Ra
     have HN7:=Lib.hid VT
     have Eb:=Q_.size
     have hl3i:n3≤L0.length+22+nb:=Nat.le_of_eq hl3
     clear kJ uD Q_ hi Ra VT hl3
     go_wp2_with (at_builtin;go_loud (refine aO rfl _ _ 39 rfl w.heap.size 5 i8 _ 1 Tryz.underlying39 HI.out.1 HI.out.2.1 HI.out.2.2.1 HI.out.2.2.2 rfl _ n3 (L3.map bv) rfl BO.out a7 n7 c7 (cb.map bv) rfl VR.out (bU cb) (by unfold maxLen;omega) (by omega) Eb ?_;intro A9 c9 u9 iK Jo _ zu;have Xm:=Lib.hid (dN Jo HG8.out uw.out);have Jp:=Lib.hid iK;clear iK Jo zu))
     go_roundw
     case rel=>
      have e8:(nP T (k+1)).length=n3+n7:=by rw[UG.out,List.length_append,HN3.out,HN7.out]
      refine⟨k+1,A9,c9,HKL.out,by go_num,by rw[e8],?_,Xm.out⟩
      rw[e8,UG.out,List.map_append]
      exact Jp.out
     case measure=>have:=HKL.out;simp only[intOf];omega
  ·have hd1:decide (k<N)=false:=by simpa using hlt
   have HO:=Lib.hid hown
   have HB:=Lib.hid hB
   have hkN:T.length≤k:=by have:=fV.out;omega
   have R8:=Lib.hid (YB.out k hkN)
   clear hown hB hkN
   go_wp2_with fail
   go_ret
   have e1:=R8.out
   rw[←e1]
   exact⟨a,c,rfl,HO.out,HB.out⟩
end
end Go.Proofs.YtohpcppeajijnaaGreat
