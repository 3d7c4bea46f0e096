/- The reference's Save. Marks on blocks: whose they are; a tree whose own blocks bear one mark, and its bytes none. A tree is copied: one item more. -/
import Derived.Test.YtohpcppeajijnaaGreatM14
import Derived.Test.YtohpcppeajijnaaGreatM21
import Derived.Test.YtohpcppeajijnaaGreatM28
import Derived.BigQuiet
import Derived.Deep.QuietTactic
import Derived.Test.YtohpcppeajijnaaGreatM16
namespace Go.Proofs.YtohpcppeajijnaaGreat
open Go.ChangeShapes Go.WideShapes Go.ChangeAt Go.RowKit
set_option linter.unusedVariables false
set_option linter.unusedSimpArgs false
def J3 (e:iF):List UInt8:=r_ e.2.1++f_ e.2.2 2
def kG (E:List iF) (id:Int) (k:Nat):List UInt8:=((E.take k).filter fun e=>decide (e.1=id)).flatMap J3
def mP (E:List iF) (id:Int) (k:Nat):Nat:=((E.take k).filter fun e=>decide (e.1=id)).length
theorem GQ {E:List iF} {id:Int} {k:Nat} {e:iF} (hx:E[k]? =some e) (he:e.1=id):kG E id (k+1)=kG E id k++r_ e.2.1++f_ e.2.2 2∧mP E id (k+1)=mP E id k+1:=by
 obtain⟨hk,h⟩:=List.getElem?_eq_some_iff.1 hx
 unfold kG mP
 rw[List.take_succ_eq_append_getElem hk,List.filter_append,h]
 simp[he,J3]
theorem J4 {E:List iF} {id:Int} {k:Nat} {e:iF} (hx:E[k]? =some e) (he:e.1≠id):kG E id (k+1)=kG E id k∧mP E id (k+1)=mP E id k:=by
 obtain⟨hk,h⟩:=List.getElem?_eq_some_iff.1 hx
 unfold kG mP
 rw[List.take_succ_eq_append_getElem hk,List.filter_append,h]
 simp[he]
theorem GR {T:aH} {id:Int} {x:bF} (hs:aP iC T) (hx:aj id T=some x) {k:Nat} (hk:(aU T).length≤k):kG (aU T) id k=x.names.flatMap Jd∧mP (aU T) id k=x.names.length:=by
 unfold kG mP
 rw[List.take_of_length_le hk,yu hs hx,List.length_map,List.flatMap_map]
 exact⟨rfl,rfl⟩
theorem Ee {E:List iF} (hg:∀e∈E,e.2.1.length≤16) (id:Int) (k:Nat):(kG E id k).length≤20*k∧mP E id k≤k:=by
 have h2:(E.take k).length≤k:=List.length_take_le _ _
 have h3:=List.length_filter_le (fun e:iF=>decide (e.1=id)) (E.take k)
 refine⟨?_,by unfold mP;omega⟩
 have h1:∀L:List iF,(∀e∈L,e.2.1.length≤16)→(L.flatMap J3).length≤20*L.length:=fun L hL=>by
  induction L with
  |nil=>simp
  |cons e r ih=>
   have h4:=hL e (by simp)
   have h5:=ih fun y hy=>hL y (by simp[hy])
   simp only[List.flatMap_cons,List.length_append,List.length_cons,J3,mI,eO]
   omega
 have h6:=h1 ((E.take k).filter fun e=>decide (e.1=id)) fun e he=>hg e (List.mem_of_mem_take (List.mem_filter.1 he).1)
 unfold kG
 omega
def nA (T:aH) (k:Nat):List UInt8:=f_ T.length 2++(T.take k).flatMap fun q=>lK q.1 q.2
theorem Ef {T:aH} {k:Nat} {q:Int×bF} (hx:T[k]? =some q):nA T (k+1)=nA T k++lK q.1 q.2:=by
 obtain⟨hk,h⟩:=List.getElem?_eq_some_iff.1 hx
 unfold nA
 rw[List.take_succ_eq_append_getElem hk,List.flatMap_append,h,List.flatMap_cons,List.flatMap_nil,List.append_nil,List.append_assoc]
theorem GU {T:aH} {k:Nat} (hk:T.length≤k):nA T k=gT T:=by
 unfold nA gT
 rw[List.take_of_length_le hk]
theorem GV {T:aH} (hT:dA T) (k:Nat):(nA T k).length≤6000000:=by
 have h1:=mJ hT (T.take k) (fun q hq=>List.mem_of_mem_take hq)
 have h2:=hT.len
 have h3:(T.take k).length≤T.length:=by rw[List.length_take];omega
 unfold nA
 rw[List.length_append,eO]
 omega
section
variable {F:Nat→Prop} {r:Nat} {T:aH}
set_option maxRecDepth 100000 in
set_option maxHeartbeats 16000000 in
theorem Eh (w:World) (h:gU F w r T) (hT:dA T):Calls Tryz.prog 32 #[ptr r] w (gQ w (gT T)):=by
 obtain⟨aN,cN,aD,cD,aE,cE,h1,h2,h3,h4,hN,hD,hE,-⟩:=h.head
 have hrw:=h.low r h.own
 have hlen:=hT.len
 have hef:=gZ hT
 have HT:=Lib.hid hT
 have HG:Hid (∀e∈aU T,e.2.1.length≤16):=fun e he=>by
  obtain⟨q,hq,hk,hm⟩:=yg he
  exact lM ((hT.each _ _ (bX dR hT.sorted hq)).good _ hm)
 have QE:Hid (∀k,T.length≤k→nA T k=gT T):=fun k hk=>GU hk
 have hdl:(T.map fun q=>q.2.b).length=T.length:=List.length_map _
 rw[hdl]at h1 h3
 obtain⟨N,hNe⟩:∃N,N=T.length:=⟨_,rfl⟩
 obtain⟨E,hEe⟩:∃E,E=aU T:=⟨_,rfl⟩
 rw[←hEe]at h1 h4 hE hef HG
 obtain⟨M,hMe⟩:∃M,M=E.length:=⟨_,rfl⟩
 rw[←hNe]at h1 h2 h3 hN hlen
 rw[←hMe]at h1 h4 hE hef
 have gW:=Lib.hid hNe
 have yC:=Lib.hid hMe
 have O4:=Lib.hid hEe
 have Sk:=Lib.hid hN
 have YV:=Lib.hid hD
 have Sl:=Lib.hid hE
 have HC:Hid (∀w',Below w.heap.size w w'→w'.cell? ⟨r,0,none⟩=some (.slice aN N cN)∧w'.cell? ⟨r,1,none⟩=some (.slice aD N cD)∧w'.cell? ⟨r,2,none⟩=some (.slice aE M cE)):=fun w' hb=>by
  have hh:=(hb.block r hrw).trans h1
  refine⟨?_,?_,?_⟩<;>simp[World.cell?,hh]
 have c0:=(HC.out w (Below.refl _ _)).1
 have NR:Hid (∀w':World,Calls Tryz.prog 90 #[.slice none 0 0, .int .i64 (N:Int)] w' (gQ w' (nA T 0))):=fun w'=>by
  have e1:nA T 0=[]++f_ (N:Int) 2:=by unfold nA;rw[hNe];simp
  rw[e1]
  exact iN (S:=fun _=>True) none 0 0 [] (N:Int) w' (ak.nil _ _ _) (by omega) (by omega) (by omega)
 clear h hT h1 hN hD hE hdl hNe hMe hEe
 go_enter Tryz.func32,Tryz.ntmps32
 go_wp2_with fail
 (with_reducible refine(NR.out _).mono ?_)
 rintro e w1 ⟨a1,c1,rfl,hown1,hb1⟩
 have nN:=Lib.hid hown1
 have HB1:=Lib.hid hb1
 clear hown1 hb1 c0
 go_wp2_with fail
 go_loopw [3,4] (fun YW iv wr=>∃(k:Nat) (a:Option Addr) (c:Nat),k≤N∧iv= .int .i64 k∧YW= .slice a (nA T k).length c∧wr.ownsRow w.heap.size 5 1 (.slice a (nA T k).length c) (nA T k).length ((nA T k).map bv)∧Below w.heap.size w wr) (fun _ iv _=>N-(intOf iv).toNat)
 case atStart=>exact⟨0,a1,c1,Nat.zero_le _,rfl,rfl,nN.out,HB1.out⟩
 case round=>
  obtain⟨k,a,c,hk,rfl,rfl,hown,hB⟩:=hrel
  have Ja:=hB.size
  have c0:=(HC.out _ hB).1
  by_cases hlt:k<N
  ·have hd1:decide (k<N)=true:=by simpa using hlt
   have hx:T[k]? =some (T[k]'(by have:=gW.out;omega)):=List.getElem?_eq_getElem _
   obtain⟨q,hq⟩:∃q,q=T[k]'(by have:=gW.out;omega):=⟨_,rfl⟩
   rw[←hq]at hx
   have HX:=Lib.hid hx
   have QF:aj q.1 T=some q.2:=bX dR HT.out.sorted (List.mem_of_getElem? hx)
   have hok:=HT.out.each _ _ QF
   obtain⟨YX,id1⟩:=HT.out.ids _ _ QF
   have hsz:=hok.size
   obtain⟨bN,oN,rfl,-,hbN,-,O5⟩:=Sk.out.wide dM gW.out.symm hx (by omega)
   have Xf:Hid (∀w',Below w.heap.size w w'→w'.cell? ⟨bN,oN+k*6,none⟩=some (.int .i64 q.1)∧w'.cell? ⟨bN,oN+k*6+1,none⟩=some (.int .i64 q.2.kind)∧w'.cell? ⟨bN,oN+k*6+2,none⟩=some (.int .i64 q.2.links)∧w'.cell? ⟨bN,oN+k*6+3,none⟩=some (.int .i64 q.2.b.length)∧w'.cell? ⟨bN,oN+k*6+4,none⟩=some (.int .u64 q.2.aQ)∧w'.cell? ⟨bN,oN+k*6+5,none⟩=some (.bool q.2.closed)):=fun w' hb=>by
    have hc:=fun j hj=>(hb.cell (p:=⟨bN,oN+k*6+j,none⟩) hbN).trans (O5 j hj)
    exact⟨hc 0 (by omega),hc 1 (by omega),hc 2 (by omega),hc 3 (by omega),hc 4 (by omega),hc 5 (by omega)⟩
   obtain⟨vs,Xg,Xh⟩:=YV.out
   obtain⟨aB,cB,hvk,hcap,hrb⟩:=Xh k q.2.b (by rw[List.getElem?_map,hx];rfl)
   obtain⟨bD,oD,rfl,-,hbD,Xi⟩:=Xg.at_ (by rw[List.length_map,←gW.out];omega)
   have Xj:Hid (∀w',Below w.heap.size w w'→w'.cell? ⟨bD,oD+k,none⟩=some (.slice aB q.2.b.length cB)):=fun w' hb=>
    ((hb.cell (p:=⟨bD,oD+k,none⟩) hbD).trans (Xi k (by rw[List.length_map,←gW.out];omega))).trans hvk
   have NP:Hid (∀w',Below w.heap.size w w'→ak (Off F r) w' aB q.2.b.length (q.2.b.map bv)):=fun w' hb=>hrb.below hb (Nat.le_refl _)
   have hl0:=GV HT.out k
   obtain⟨L0,hL0⟩:∃L,L=nA T k:=⟨_,rfl⟩
   rw[←hL0]at hown hl0⊢
   obtain⟨EN,QG⟩:∃L,L=oC q.1 q.2:=⟨_,rfl⟩
   have hle:EN.length=16:=by rw[QG];exact jA _ _
   obtain⟨L1,hL1⟩:∃L,L=L0++r_ EN:=⟨_,rfl⟩
   have hl1:L1.length=L0.length+18:=by rw[hL1,List.length_append,mI,hle]
   obtain⟨L2,hL2⟩:∃L,L=L1++r_ q.2.b:=⟨_,rfl⟩
   obtain⟨nb,hnb⟩:∃n,n=q.2.b.length:=⟨_,rfl⟩
   rw[←hnb]at hsz Xf Xj NP
   have hl2:L2.length=L0.length+20+nb:=by rw[hL2,List.length_append,mI,hl1,←hnb];omega
   have Jf:Hid (∀w':World,Calls Tryz.prog 92 #[.agg #[.int .i64 q.1, .int .i64 q.2.kind, .int .i64 q.2.links, .int .i64 nb, .int .u64 q.2.aQ, .bool q.2.closed]] w' (gQ w' EN)):=fun w'=>by
    rw[QG,hnb]
    exact AL q.1 q.2 hok YX id1 w'
   have DW:Hid (∀(B B':Nat) (w':World) (a a':Option Addr) (c c':Nat),w'.ownsRow B 5 1 (.slice a L0.length c) L0.length (L0.map bv)→w'.ownsRow B' 5 1 (.slice a' EN.length c') EN.length (EN.map bv)→Calls Tryz.prog 91 #[.slice a L0.length c, .slice a' EN.length c'] w' (gQ w' L1)):=fun B B' w' a a' c c' h h'=>by
    rw[hL1]
    exact oz a _ c L0 a' _ c' EN w' (fI h) (fI h') (by omega) (by omega)
   have Mf:Hid (∀(B:Nat) (w':World) (a:Option Addr) (c:Nat),w'.ownsRow B 5 1 (.slice a L1.length c) L1.length (L1.map bv)→Below w.heap.size w w'→Calls Tryz.prog 91 #[.slice a L1.length c, .slice aB nb cB] w' (gQ w' L2)):=fun B w' a c h hb=>by
    rw[hL2]
    have h9:=oz a _ c L1 aB nb cB q.2.b w' (fI h) (NP.out w' hb) (by omega) (by omega)
    rw[hnb]at h9⊢
    exact h9
   have Qz:=Lib.hid (GR HT.out.sorted QF (k:=M) (by rw[yC.out,O4.out];exact Nat.le_refl _))
   rw[←O4.out]at Qz
   have O6:=Lib.hid (fun j=>Ee HG.out q.1 j)
   obtain⟨cb,hcb⟩:∃L,L=kG E q.1 M:=⟨_,rfl⟩
   obtain⟨cn,hcn⟩:∃n,n=mP E q.1 M:=⟨_,rfl⟩
   obtain⟨O7,Sm⟩:=O6.out M
   rw[←hcb]at O7
   rw[←hcn]at Sm
   obtain⟨L3,hL3⟩:∃L,L=L2++f_ (cn:Int) 2:=⟨_,rfl⟩
   have hl3:L3.length=L0.length+22+nb:=by rw[hL3,List.length_append,eO,hl2];omega
   have NT:Hid (∀(B:Nat) (w':World) (a:Option Addr) (c:Nat),w'.ownsRow B 5 1 (.slice a L2.length c) L2.length (L2.map bv)→Calls Tryz.prog 90 #[.slice a L2.length c, .int .i64 (cn:Int)] w' (gQ w' L3)):=fun B w' a c h=>by
    rw[hL3]
    exact iN a _ c L2 (cn:Int) w' (fI h) (by omega) (by omega) (by omega)
   have O8:Hid (nA T (k+1)=L3++cb):=by
    show nA T (k+1)=L3++cb
    rw[Ef hx,←hL0,hL3,hL2,hL1,QG,hcb,hcn,Qz.out.1,Qz.out.2]
    unfold lK
    simp only[List.append_assoc]
   have HO:=Lib.hid hown
   have HB:=Lib.hid hB
   have Xk:=Lib.hid hlt
   have YZ:=Lib.hid hl3
   have HL2:=Lib.hid hl2
   have Y0:=Lib.hid hcb
   have Y1:=Lib.hid hcn
   have hk0:(0:Int)≤(k:Int):=by omega
   have hk1:(k:Int)<(N:Int):=by omega
   have hl0':=hl0
   have HH:Hid (∀w',Below w.heap.size w w'→w'.cell? ⟨r,0,none⟩=some (.slice (some ⟨bN,oN,none⟩) N cN)∧w'.cell? ⟨r,1,none⟩=some (.slice (some ⟨bD,oD,none⟩) N cD)∧w'.cell? ⟨bN,oN+k*6,none⟩=some (.int .i64 q.1)∧w'.cell? ⟨bN,oN+k*6+1,none⟩=some (.int .i64 q.2.kind)∧w'.cell? ⟨bN,oN+k*6+2,none⟩=some (.int .i64 q.2.links)∧w'.cell? ⟨bN,oN+k*6+3,none⟩=some (.int .i64 nb)∧w'.cell? ⟨bN,oN+k*6+4,none⟩=some (.int .u64 q.2.aQ)∧w'.cell? ⟨bN,oN+k*6+5,none⟩=some (.bool q.2.closed)∧w'.cell? ⟨bD,oD+k,none⟩=some (.slice aB nb cB)):=fun w' hb=>by
    obtain⟨y0,y1,-⟩:=HC.out w' hb
    obtain⟨n0,n1,n2,n3,n4,n5⟩:=Xf.out w' hb
    exact⟨y0,y1,n0,n1,n2,n3,n4,n5,Xj.out w' hb⟩
   clear hx hq QF hok Xg Xh hvk hcap hrb Xi O5 hL0 QG hle hL1 hl1 hL2 hl2 hnb hcb hcn hL3 hl3 hown hB hlt hl0
   go_wp2_with fail
   refine wp_region_noPanic ?_
   refine wp_region_held_drew (S:=(fun w'=>w'.cell? ⟨r,0,none⟩=some (.slice (some ⟨bN,oN,none⟩) N cN)∧w'.cell? ⟨r,1,none⟩=some (.slice (some ⟨bD,oD,none⟩) N cD)∧w'.cell? ⟨bN,oN+k*6,none⟩=some (.int .i64 q.1)∧w'.cell? ⟨bN,oN+k*6+1,none⟩=some (.int .i64 q.2.kind)∧w'.cell? ⟨bN,oN+k*6+2,none⟩=some (.int .i64 q.2.links)∧w'.cell? ⟨bN,oN+k*6+3,none⟩=some (.int .i64 nb)∧w'.cell? ⟨bN,oN+k*6+4,none⟩=some (.int .u64 q.2.aQ)∧w'.cell? ⟨bN,oN+k*6+5,none⟩=some (.bool q.2.closed)∧w'.cell? ⟨bD,oD+k,none⟩=some (.slice aB nb cB))) (by kernel_rfl) ?_ (fun hS=> ?_)
   ·exact HH.out _ HB.out.drew
   refine iV 0 (hS:=hS) (h:= ?_)
   refine iV 1 (hS:=hS) (h:= ?_)
   refine iV 2 (hS:=hS) (h:= ?_)
   refine iV 3 (hS:=hS) (h:= ?_)
   refine iV 4 (hS:=hS) (h:= ?_)
   refine iV 5 (hS:=hS) (h:= ?_)
   refine iV 6 (hS:=hS) (h:= ?_)
   refine iV 7 (hS:=hS) (h:= ?_)
   refine iV 10 (hS:=hS) (h:= ?_)
   refine iV 11 (hS:=hS) (h:= ?_)
   refine iV 12 (hS:=hS) (h:= ?_)
   refine iV 13 (hS:=hS) (h:= ?_)
   refine iV 14 (hS:=hS) (h:= ?_)
   refine iV 15 (hS:=hS) (h:= ?_)
   refine iV 16 (hS:=hS) (h:= ?_)
   refine wm 8 (h:=fun K hK=> ?_)
   go_simp
   (with_reducible refine(Jf.out _).mono ?_)
   rintro e w4 ⟨a4,c4,rfl,mE,FY⟩
   have hb4:Below w.heap.size w w4:=HB.out.drew.trans (FY.mono Ja)
   have GX:=Lib.hid mE
   have LJ:=Lib.hid (own_below (w:=wr.drew) (w':=w4) HO.out FY)
   clear mE
   go_simp
   refine hK.out _ _ (HH.out _ hb4) (fun hS=> ?_)
   clear hK K
   try simp only[Act.put,List.setIfInBounds_toArray,List.set_cons_zero,List.set_cons_succ]
   refine wm 9 (h:=fun K hK=> ?_)
   go_simp
   (with_reducible refine(DW.out _ _ _ _ _ _ _ LJ.out GX.out).mono ?_)
   rintro e w5 ⟨a5,c5,rfl,hown5,JA⟩
   have hb5:Below w.heap.size w w5:=hb4.trans (JA.mono hb4.size)
   have O9:=Lib.hid hown5
   clear hown5
   go_simp
   refine hK.out _ _ (HH.out _ hb5) (fun hS=> ?_)
   clear hK K
   try simp only[Act.put,List.setIfInBounds_toArray,List.set_cons_zero,List.set_cons_succ]
   refine wm 17 (h:=fun K hK=> ?_)
   go_simp
   (with_reducible refine(Mf.out _ _ _ _ O9.out hb5).mono ?_)
   rintro e w6 ⟨a6,c6,rfl,hown6,JB⟩
   have hb6:Below w.heap.size w w6:=hb5.trans (JB.mono hb5.size)
   have Sn:=Lib.hid (uR hown6 (Nat.zero_le _))
   clear hown6
   go_simp
   refine hK.out _ _ (HH.out _ hb6) (fun hS=> ?_)
   clear hK K
   try simp only[Act.put,List.setIfInBounds_toArray,List.set_cons_zero,List.set_cons_succ]
   refine wm 18 (h:=fun K hK=> ?_)
   go_simp
   refine hK.out _ _ (HH.out _ hb6) (fun hS=> ?_)
   clear hK K
   try simp only[Act.put,List.setIfInBounds_toArray,List.set_cons_zero,List.set_cons_succ]
   refine wpAnyH_done (by kernel_rfl) ?_ _
   refine NoPanic.normal ?_
   have qH:=Lib.hid hb6
   have hs6:=hb6.size
   clear FY JA JB hb4 hb5 hb6
   go_wp2_with fail
   obtain⟨wo,rfl⟩:∃wo:World,wo=wr:=⟨_,rfl⟩
   go_loopw [5,6,7] (fun nv lv kv wr=>∃(j:Nat) (a:Option Addr) (c:Nat),j≤M∧kv= .int .i64 j∧nv= .int .i64 (mP E q.1 j)∧lv= .slice a (kG E q.1 j).length c∧wr.ownsRow w6.heap.size 5 1 (.slice a (kG E q.1 j).length c) (kG E q.1 j).length ((kG E q.1 j).map bv)∧Below w6.heap.size w6 wr) (fun _ _ kv _=>M-(intOf kv).toNat)
   case atStart=>exact⟨0,none,0,Nat.zero_le _,rfl,rfl,rfl,⟨rfl, .inl ⟨rfl,rfl⟩⟩,Below.refl _ _⟩
   case round=>
    obtain⟨j,a7,c7,hj,rfl,rfl,rfl,sV,zZ⟩:=hrel
    have Sq:=zZ.size
    have hBw:Below w.heap.size w wr:=qH.out.trans (zZ.mono hs6)
    have y2:=(HC.out _ hBw).2.2
    obtain⟨hel,hen⟩:=O6.out j
    by_cases hjm:j<M
    ·have hd2:decide (j<M)=true:=by simpa using hjm
     have hx:E[j]? =some (E[j]'(by have:=yC.out;omega)):=List.getElem?_eq_getElem _
     obtain⟨e,he⟩:∃e,e=E[j]'(by have:=yC.out;omega):=⟨_,rfl⟩
     rw[←he]at hx
     have hnm:=HG.out e (List.mem_of_getElem? hx)
     obtain⟨bE,oE,rfl,-,Y2,-,Xl⟩:=Sl.out.wide gY yC.out.symm hx (by omega)
     have Sr:Hid (∀w',Below w.heap.size w w'→w'.cell? ⟨bE,oE+j*3,none⟩=some (.int .i64 e.1)∧w'.cell? ⟨bE,oE+j*3+1,none⟩=some (.string (strOf e.2.1))∧w'.cell? ⟨bE,oE+j*3+2,none⟩=some (.int .i64 e.2.2)):=fun w' hb=>by
      have hc:=fun i hi=>(hb.cell (p:=⟨bE,oE+j*3+i,none⟩) Y2).trans (Xl i hi)
      exact⟨hc 0 (by omega),hc 1 (by omega),hc 2 (by omega)⟩
     have y0:=(HH.out _ hBw).1
     have n0:=(HH.out _ hBw).2.2.1
     have e0:=(Sr.out _ hBw).1
     have QH:=Lib.hid hjm
     have hj0:(0:Int)≤(j:Int):=by omega
     have hj1:(j:Int)<(M:Int):=by omega
     have Lb:=Lib.hid sV
     have yD:=Lib.hid zZ
     have HX:=Lib.hid hx
     clear sV zZ hx he Xl hjm
     by_cases hp:e.1=q.1
     ·have hpp:(e.1==q.1)=true:=by simpa using hp
      obtain⟨hyb,hyn⟩:=GQ HX.out hp
      obtain⟨C0,hC0⟩:∃L,L=kG E q.1 j:=⟨_,rfl⟩
      obtain⟨C1,O_⟩:∃L,L=C0++r_ e.2.1:=⟨_,rfl⟩
      obtain⟨C2,hC2⟩:∃L,L=C1++f_ e.2.2 2:=⟨_,rfl⟩
      rw[←hC0,←O_,←hC2]at hyb
      rw[←hC0]at hel Lb⊢
      obtain⟨nm,MX⟩:∃nm,nm=e.2.1:=⟨_,rfl⟩
      rw[←MX]at hnm O_
      have Y3:C1.length≤20*j+18:=by rw[O_,List.length_append,mI];omega
      obtain⟨Lc,J5⟩:∃Lc,Lc=e.2.2:=⟨_,rfl⟩
      have Oy:0≤Lc∧Lc≤65535:=by
       have hm:e∈aU T:=by rw[←O4.out];exact List.mem_of_getElem? HX.out
       obtain⟨x,hx1,hx2⟩:=(iZ HT.out.sorted).1 hm
       obtain⟨y,hy⟩:=Option.isSome_iff_exists.1 (HT.out.leads _ x hx1 e.2 hx2).1
       rw[J5]
       exact HT.out.ids _ _ hy
      obtain⟨Sv,Y4⟩:=Oy
      obtain⟨dn,hdn⟩:∃n,n=mP E q.1 j:=⟨_,rfl⟩
      rw[←hdn]at hen hyn⊢
      have HZ2:Hid (∀(B:Nat) (w':World) (a:Option Addr) (c:Nat),w'.ownsRow B 5 1 (.slice a C1.length c) C1.length (C1.map bv)→Calls Tryz.prog 90 #[.slice a C1.length c, .int .i64 Lc] w' (gQ w' C2)):=fun B w' a c h=>by
       rw[hC2,←J5]
       exact iN a _ c C1 Lc w' (fI h) (by omega) Sv (by omega)
      have HZ1:Hid (∀(B:Nat) (w':World) (a:Option Addr) (c:Nat) (a':Option Addr) (c':Nat) (S':Nat→Prop),w'.ownsRow B 5 1 (.slice a C0.length c) C0.length (C0.map bv)→ak S' w' a' nm.length (nm.map bv)→Calls Tryz.prog 91 #[.slice a C0.length c, .slice a' nm.length c'] w' (gQ w' C1)):=fun B w' a c a' c' S' h h'=>by
       rw[O_]
       exact oz a _ c C0 a' _ c' nm w' (fI h) h' (by omega) (by omega)
      have J6:Hid (∀w',Below w.heap.size w w'→w'.cell? ⟨r,2,none⟩=some (.slice (some ⟨bE,oE,none⟩) M cE)∧w'.cell? ⟨bE,oE+j*3+1,none⟩=some (.string (strOf nm))∧w'.cell? ⟨bE,oE+j*3+2,none⟩=some (.int .i64 Lc)):=fun w' hb=>by
       rw[MX,J5]
       exact⟨(HC.out w' hb).2.2,(Sr.out w' hb).2.1,(Sr.out w' hb).2.2⟩
      have Pb:=Lib.hid hyb
      have L8:=Lib.hid hyn
      have MZ:=Lib.hid hBw
      clear hp hyb hyn hC0 O_ hC2 MX J5 hdn hBw
      go_wp2_with fail
      go_quiet (fail)
      have Ji:Hid (Below w.heap.size w (wr.drewN nq)):=MZ.out.trans ⟨rfl,rfl,rfl,Nat.le_refl _,fun _ _=>rfl⟩
      have Pf:Hid (Below w6.heap.size w6 (wr.drewN nq)):=yD.out.trans ⟨rfl,rfl,rfl,Nat.le_refl _,fun _ _=>rfl⟩
      have Sw:Hid ((wr.drewN nq).ownsRow w6.heap.size 5 1 (.slice a7 C0.length c7) C0.length (C0.map bv)):=own_below Lb.out ⟨rfl,rfl,rfl,Nat.le_refl _,fun _ _=>rfl⟩
      clear y0 n0 e0 y2 Lb MZ yD Sq
      generalize wr.drewN nq=wq at*
      have hs7:=Pf.out.size
      go_wp2_with fail
      obtain⟨WY,wc,hrun,hbc,RS,K9,hcells⟩:=zu wq.drew nm (by omega)
      have hrow:ak (fun b=>b=wq.heap.size) wc (some ⟨wq.heap.size,0,none⟩) nm.length (nm.map bv):=hcells
      have yw:=Lib.hid hrow
      have M0:Below w6.heap.size w6 wc:=Pf.out.drew.trans (hbc.mono hs7)
      have CS:Below w.heap.size w wc:=Ji.out.drew.trans (hbc.mono Ji.out.size)
      have Y5:Hid (wc.ownsRow w6.heap.size 5 1 (.slice a7 C0.length c7) C0.length (C0.map bv)):=own_below (w:=wq.drew) Sw.out hbc
      clear hcells hrow
      refine wp_region_noPanic ?_
      refine wp_region_held_drew (S:=(fun w'=>w'.cell? ⟨r,2,none⟩=some (.slice (some ⟨bE,oE,none⟩) M cE)∧w'.cell? ⟨bE,oE+j*3+1,none⟩=some (.string (strOf nm))∧w'.cell? ⟨bE,oE+j*3+2,none⟩=some (.int .i64 Lc))) (by kernel_rfl) ?_ (fun hS=> ?_)
      ·exact J6.out _ Ji.out.drew
      refine iV 0 (hS:=hS) (h:= ?_)
      refine iV 1 (hS:=hS) (h:= ?_)
      refine iV 2 (hS:=hS) (h:= ?_)
      refine iV 3 (hS:=hS) (h:= ?_)
      refine iV 4 (hS:=hS) (h:= ?_)
      refine iV 5 (hS:=hS) (h:= ?_)
      refine iV 6 (hS:=hS) (h:= ?_)
      refine iV 7 (hS:=hS) (h:= ?_)
      refine iV 8 (hS:=hS) (h:= ?_)
      refine iV 11 (hS:=hS) (h:= ?_)
      refine iV 12 (hS:=hS) (h:= ?_)
      refine iV 13 (hS:=hS) (h:= ?_)
      refine iV 14 (hS:=hS) (h:= ?_)
      refine iV 15 (hS:=hS) (h:= ?_)
      refine iV 16 (hS:=hS) (h:= ?_)
      refine iV 17 (hS:=hS) (h:= ?_)
      refine iV 18 (hS:=hS) (h:= ?_)
      refine wm 9 (h:=fun K hK=> ?_)
      go_simp
      refine hK.out _ _ (J6.out _ CS) (fun hS=> ?_)
      clear hK K
      try simp only[Act.put,List.setIfInBounds_toArray,List.set_cons_zero,List.set_cons_succ]
      refine wm 10 (h:=fun K hK=> ?_)
      go_simp
      (with_reducible refine(HZ1.out _ _ _ _ _ _ _ Y5.out yw.out).mono ?_)
      rintro e w8 ⟨a8,c8,rfl,qV,M4⟩
      have vv:Below w.heap.size w w8:=CS.trans (M4.mono CS.size)
      have J7:Below w6.heap.size w6 w8:=M0.trans (M4.mono M0.size)
      have JR:=Lib.hid qV
      clear qV
      go_simp
      refine hK.out _ _ (J6.out _ vv) (fun hS=> ?_)
      clear hK K
      try simp only[Act.put,List.setIfInBounds_toArray,List.set_cons_zero,List.set_cons_succ]
      refine wm 19 (h:=fun K hK=> ?_)
      go_simp
      (with_reducible refine(HZ2.out _ _ _ _ JR.out).mono ?_)
      rintro e w9 ⟨a9,c9,rfl,nP,M5⟩
      have AJ:Below w.heap.size w w9:=vv.trans (M5.mono vv.size)
      have Pg:Below w6.heap.size w6 w9:=J7.trans (M5.mono J7.size)
      have M6:=Lib.hid (uR nP J7.size)
      clear nP
      go_simp
      refine hK.out _ _ (J6.out _ AJ) (fun hS=> ?_)
      clear hK K
      try simp only[Act.put,List.setIfInBounds_toArray,List.set_cons_zero,List.set_cons_succ]
      refine wm 20 (h:=fun K hK=> ?_)
      go_simp
      refine hK.out _ _ (J6.out _ AJ) (fun hS=> ?_)
      clear hK K
      try simp only[Act.put,List.setIfInBounds_toArray,List.set_cons_zero,List.set_cons_succ]
      refine wpAnyH_done (by kernel_rfl) ?_ _
      refine NoPanic.normal ?_
      have Sy:=Lib.hid Pg
      clear M4 M5 vv J7 AJ Pg hrun hbc M0 CS
      go_wp2_with fail
      go_roundw
      case rel=>exact⟨j+1,a9,c9,QH.out,by go_num,by rw[L8.out];go_num,by rw[Pb.out],by rw[Pb.out];exact M6.out,Sy.out⟩
      case measure=>have:=QH.out;simp[intOf];omega
     ·have hpp:(e.1==q.1)=false:=by simpa using hp
      obtain⟨hyb,hyn⟩:=J4 HX.out hp
      have Pb:=Lib.hid hyb
      have L8:=Lib.hid hyn
      clear hp hyb hyn hBw
      go_wp2_with fail
      go_quiet (fail)
      go_wp2_with fail
      go_roundw
      case rel=>exact⟨j+1,a7,c7,QH.out,by go_num,by rw[L8.out],by rw[Pb.out],by rw[Pb.out];exact own_below Lb.out ⟨rfl,rfl,rfl,Nat.le_refl _,fun _ _=>rfl⟩,yD.out.trans ⟨rfl,rfl,rfl,Nat.le_refl _,fun _ _=>rfl⟩⟩
      case measure=>have:=QH.out;simp[intOf];omega
    ·have hd2:decide (j<M)=false:=by simpa using hjm
     obtain rfl:j=M:=by omega
     rw[←Y0.out]at sV⊢
     rw[←Y1.out]
     have Lb:=Lib.hid sV
     have MZ:=Lib.hid hBw
     have Sz:=Lib.hid (own_below Sn.out zZ)
     clear sV zZ hBw hjm hel hen
     go_wp2_with fail
     (with_reducible refine(NT.out _ _ _ _ Sz.out).mono ?_)
     rintro e w8 ⟨a8,c8,rfl,qV,vv⟩
     have M7:Below w.heap.size w w8:=MZ.out.trans (vv.mono MZ.out.size)
     have Xm:=Lib.hid ((fI Lb.out).below vv (Nat.le_refl _))
     have JR:=Lib.hid (uR qV MZ.out.size)
     have tH:=Lib.hid M7
     have Xn:Hid (∀b,(Value.slice a8 L3.length c8).ownBlock=some b→w.heap.size≤b):=fun b hb=>Av (uR qV MZ.out.size) hb
     obtain⟨i8,hi⟩:∃i,Tryz.prog.info? 5=some i∧i.zero=some (.int .u8 0)∧i.size=1∧i.bytes=1:=info_parts (by kernel_rfl)
     have HI:=Lib.hid hi
     have hl3:=YZ.out
     obtain⟨n3,Ox⟩:∃n,n=L3.length:=⟨_,rfl⟩
     obtain⟨n7,SA⟩:∃n,n=cb.length:=⟨_,rfl⟩
     rw[←Ox]at hl3 JR Xn⊢
     rw[←SA]at Xm O7⊢
     have Y6:=Lib.hid Ox
     have Y7:=Lib.hid SA
     have E9:=M7.size
     have Y8:n3≤L0.length+22+nb:=Nat.le_of_eq hl3
     clear qV vv M7 hi Ox SA hl3
     go_wp2_with (at_builtin;go_loud (refine bC rfl _ _ 39 rfl w.heap.size 5 i8 _ 1 Tryz.underlying39 HI.out.1 HI.out.2.1 HI.out.2.2.1 HI.out.2.2.2 rfl _ n3 (L3.map bv) rfl JR.out a7 n7 c7 (cb.map bv) rfl Xm.out (fE cb) (by unfold maxLen;omega) (by omega) E9 ?_;intro A9 c9 u9 nP J8 _ Bn;have SB:=Lib.hid (iq J8 Xn.out tH.out);have M6:=Lib.hid nP;clear nP J8 Bn))
     go_roundw
     case rel=>
      have e8:(nA T (k+1)).length=n3+n7:=by rw[O8.out,List.length_append,Y6.out,Y7.out]
      refine⟨k+1,A9,c9,Xk.out,by go_num,by rw[e8],?_,SB.out⟩
      rw[e8,O8.out,List.map_append]
      exact M6.out
     case measure=>have:=Xk.out;simp only[intOf];omega
  ·have hd1:decide (k<N)=false:=by simpa using hlt
   have HO:=Lib.hid hown
   have HB:=Lib.hid hB
   have hkN:T.length≤k:=by have:=gW.out;omega
   have OA:=Lib.hid (QE.out k hkN)
   clear hown hB hkN
   go_wp2_with fail
   go_ret
   have e1:=OA.out
   rw[←e1]
   exact⟨a,c,rfl,HO.out,HB.out⟩
end
abbrev Mark:=Nat→Nat
structure Marks (W:World) (o:Mark) (w:World):Prop where
 new:∀b,o b≠0→W.heap.size≤b∧b<w.heap.size
 below:Below W.heap.size W w
structure Step (o:Mark) (I:Nat→Prop) (w:World) (o':Mark) (w':World):Prop where
 old:∀b,b<w.heap.size→o' b=o b
 new:∀b,w.heap.size≤b→o' b≠0→I (o' b)∧b<w'.heap.size
 keep:Keeps (fun b=>I (o b)) w w'
theorem Marks.step {W w w':World} {o o':Mark} {I:Nat→Prop} (h:Marks W o w) (hi:¬I 0) (hs:Step o I w o' w'):Marks W o' w':=by
 refine⟨fun b hb=> ?_,h.below.trans (hs.keep.jr h.below.size fun x hx (hxi:I (o x))=> ?_)⟩
 ·by_cases hlt:b<w.heap.size
  ·rw[hs.old b hlt]at hb
   exact⟨(h.new b hb).1,Nat.lt_of_lt_of_le hlt hs.keep.size⟩
  ·have h1:=(hs.new b (by omega) hb).2
   have:=h.below.size
   exact⟨by omega,h1⟩
 ·have h0:o x≠0:=fun e=>hi (by rw[e]at hxi;exact hxi)
  have:=(h.new x h0).1
  omega
theorem Marks.grow {W w w':World} {o:Mark} (h:Marks W o w) (hb:Below w.heap.size w w'):Marks W o w':=
 ⟨fun b hn=>⟨(h.new b hn).1,Nat.lt_of_lt_of_le (h.new b hn).2 hb.size⟩,h.below.trans (hb.mono h.below.size)⟩
theorem Step.mono {w w':World} {o o':Mark} {I J:Nat→Prop} (h:Step o I w o' w') (Xo:∀i,I i→J i):Step o J w o' w':=
 ⟨h.old,fun b hb hn=>⟨Xo _ (h.new b hb hn).1,(h.new b hb hn).2⟩,h.keep.mono fun x _ hx=>Xo _ hx⟩
theorem Step.grow {W w w':World} {o:Mark} {I:Nat→Prop} (h:Marks W o w) (hb:Below w.heap.size w w'):Step o I w o w':=
 ⟨fun _ _=>rfl,fun b hb hn=>by have:=(h.new b hn).2;omega,(Keeps.below hb).mono fun x hx hx'=>absurd hx (by omega)⟩
theorem Step.trans {w w1 w2:World} {o o1 o2:Mark} {I:Nat→Prop} (h:Step o I w o1 w1) (k:Step o1 I w1 o2 w2):Step o I w o2 w2:=by
 have hs:=h.keep.size
 refine⟨fun b hb=>(k.old b (by omega)).trans (h.old b hb),fun b hb hn=> ?_,h.keep.trans k.keep fun x hx (hxi:I (o1 x))=>by rw[h.old x hx]at hxi;exact hxi⟩
 by_cases hlt:b<w1.heap.size
 ·rw[k.old b hlt]at hn⊢
  exact⟨(h.new b hb hn).1,Nat.lt_of_lt_of_le (h.new b hb hn).2 k.keep.size⟩
 ·exact k.new b (by omega) hn
theorem Step.then_ {W w w1 w2:World} {o o1:Mark} {I:Nat→Prop} (hM:Marks W o w) (hi:¬I 0) (h:Step o I w o1 w1) (hb:Below w1.heap.size w1 w2):Step o I w o1 w2:=h.trans (Step.grow (hM.step hi h) hb)
theorem Step.behind {W w w1 w2:World} {o o2:Mark} {I:Nat→Prop} (hM:Marks W o w) (hb:Below w.heap.size w w1) (h:Step o I w1 o2 w2):Step o I w o2 w2:=(Step.grow hM hb).trans h
theorem Step.block {w w':World} {o o':Mark} {I:Nat→Prop} (h:Step o I w o' w') {b:Nat} (hb:b<w.heap.size) (hn:¬I (o b)):w'.heap[b]? =w.heap[b]? :=h.keep.block b hb hn
def Free (o:Mark) (w:World) (b:Nat):Prop:=o b=0∧b<w.heap.size
theorem ak.free {o o':Mark} {I:Nat→Prop} {w w':World} {a:Option Addr} {n:Nat} {vs:List Value} (h:ak (Free o w) w a n vs) (hi:¬I 0) (hs:Step o I w o' w'):ak (Free o' w') w' a n vs:=
 h.move hs.keep.size fun b hb hbw=>⟨⟨(hs.old b hb.2).trans hb.1,Nat.lt_of_lt_of_le hb.2 hs.keep.size⟩,hs.block hb.2 (by rw[hb.1];exact hi)⟩
theorem ak.GY {W w w':World} {o:Mark} {a:Option Addr} {n:Nat} {vs:List Value} (hM:Marks W o w) (h:ak (fun x=>w.heap.size≤x∧x<w'.heap.size) w' a n vs):ak (Free o w') w' a n vs:=
 h.mono fun b hb=>⟨Decidable.byContradiction fun h0=>by have:=(hM.new b h0).2;omega,hb.2⟩
def eU (o:Mark) (i:Nat) (w:World) (p:Nat) (T:aH):Prop:=
 ∃g D mb ib nb,aK g D w p mb ib nb T∧(∀b,g b≠ .none→o b=i)∧(∀b,D b→o b=0)
theorem eU.step {o o':Mark} {I:Nat→Prop} {j:Nat} {w w':World} {p:Nat} {T:aH} (h:eU o j w p T) (hi:¬I 0) (hij:¬I j) (hs:Step o I w o' w'):eU o' j w' p T:=by
 obtain⟨g,D,mb,ib,nb,hA,hg,hD⟩:=h
 refine⟨g,D,mb,ib,nb,hA.keeps hs.keep fun b hb=> ?_,fun b hb=>(hs.old b (hA.low b hb)).trans (hg b hb),fun b hb=>(hs.old b (hA.lG b hb)).trans (hD b hb)⟩
 rcases hb with hb|hb
 ·rw[hg b hb];exact hij
 ·rw[hD b hb];exact hi
theorem eU.grow {o:Mark} {j:Nat} {w w':World} {p:Nat} {T:aH} (h:eU o j w p T) (hb:Below w.heap.size w w'):eU o j w' p T:=by
 obtain⟨g,D,mb,ib,nb,hA,hg,hD⟩:=h
 exact⟨g,D,mb,ib,nb,hA.below hb (Nat.le_refl _),hg,hD⟩
theorem eU.remark {o o':Mark} {j k:Nat} {w:World} {p:Nat} {T:aH} (h:eU o j w p T) (h1:∀b,b<w.heap.size→o b=j→o' b=k) (h2:∀b,b<w.heap.size→o b=0→o' b=0):eU o' k w p T:=by
 obtain⟨g,D,mb,ib,nb,hA,hg,hD⟩:=h
 exact⟨g,D,mb,ib,nb,hA,fun b hb=>h1 b (hA.low b hb) (hg b hb),fun b hb=>h2 b (hA.lG b hb) (hD b hb)⟩
def fJ (o:Mark) (i:Nat) (w:World) (p:Nat) (T':aH) (v:Value) (e:Ending) (w':World):Prop:=
 e= .returned v∧∃o',Step o (fun j=>j=i) w o' w'∧eU o' i w' p T'
open Classical in
theorem fJ.of {W w w':World} {o:Mark} {i p mb:Nat} {T':aH} {v:Value} {e:Ending} {g:Nat→Own} {D:Nat→Prop} (hM:Marks W o w) (hi:i≠0) (hg:∀b,g b≠ .none→o b=i) (hD:∀b,D b→o b=0) (ht:Turn g D w p mb T' v e w'):fJ o i w p T' v e w':=by
 obtain⟨rfl,g',D',Cn,nb',hA',hg',hD',hK⟩:=ht
 obtain⟨o',ho⟩:∃o':Mark,∀b,o' b=if b<w.heap.size then o b else if g' b≠ .none then i else 0:=⟨_,fun _=>rfl⟩
 refine⟨rfl,o',⟨fun b hb=>by rw[ho,if_pos hb],fun b hb hn=> ?_,hK.mono fun x _ hx=>hg x hx⟩,g',D',mb,Cn,nb',hA',fun b hb=> ?_,fun b hb=> ?_⟩
 ·rw[ho,if_neg (by omega)]at hn⊢
  by_cases h:g' b≠ .none
  ·rw[if_pos h];exact⟨rfl,hA'.low b h⟩
  ·rw[if_neg h]at hn;exact absurd rfl hn
 ·rw[ho]
  by_cases hlt:b<w.heap.size
  ·rw[if_pos hlt]
   rcases hg' b hb with h|h
   ·exact hg b h
   ·omega
  ·rw[if_neg hlt,if_pos hb]
 ·rw[ho]
  by_cases hlt:b<w.heap.size
  ·rw[if_pos hlt]
   rcases hD' b hb with h|h
   ·exact hD b h
   ·omega
  ·rw[if_neg hlt,if_neg (by rw[hA'.data b hb];simp)]
section
variable {W w:World} {o:Mark} {i p:Nat} {T:aH}
theorem J9 {S:Nat→Prop} (h:eU o i w p T) (hM:Marks W o w) (hi:i≠0) (hT:dA T) (a:Option Addr) (n c:Nat) (ls:List Nm) (kind:Int) (hS:aG S w a n (ls.map strOf)) (hc:n≤c) (jd:n≤1000000):
  Calls Tryz.prog 12 #[ptr p, .slice a n c, .int .i64 kind] w (fJ o i w p (aL T ls kind).2 (.tuple #[.int .i64 (aL T ls kind).1.1, .int .i64 (aL T ls kind).1.2])):=by
 obtain⟨g,D,mb,ib,nb,hA,hg,hD⟩:=h
 exact(Co a n c ls kind w hA hT hS hc jd).mono fun e w' ht=>fJ.of hM hi hg hD ht
theorem Ei {S:Nat→Prop} (h:eU o i w p T) (hM:Marks W o w) (hi:i≠0) (hT:dA T) (id:Int) (a:Option Addr) (l c:Nat) (bs:List UInt8) (hid:(Lit.int .i64 id).wf=true) (hr:ak S w a l (bs.map bv)) (hl:l≤1000000000):
  Calls Tryz.prog 20 #[ptr p, .int .i64 id, .slice a l c] w (fJ o i w p (bT T id bs).2 (.int .i64 (bT T id bs).1)):=by
 obtain⟨g,D,mb,ib,nb,hA,hg,hD⟩:=h
 exact(DF id a l c bs w hA (fun x hx=>(hT.each id x hx).size) hid hr hl).mono fun e w' ht=>fJ.of hM hi hg hD ht
end
theorem aK.SC {g:Nat→Own} {D:Nat→Prop} {w w':World} {p mb:Nat} {ib nb:Int→Nat} {T:aH} (h:aK g D w p mb ib nb T) {k:Int} {x:bF} {i n:Nat} (hi0:w.heap.size≤i) (hn0:w.heap.size≤n) (hin:i≠n) (hiw:i<w'.heap.size) (hnw:x.kind=2→n<w'.heap.size) (hx0:aj k T=none)
  (hm:MapAt bP w' mb (bY iC k (ptr i) (T.map fun q=>(q.1,ptr (ib q.1))))) (hsz:w.heap.size≤w'.heap.size) (hb:∀b,b<w.heap.size→b≠mb→w'.heap[b]? =w.heap[b]?) (hi:iL D w' k i n x):
  aK (fun b=>if b=i then .item k else if b=n∧x.kind=2 then .names k else g b) D w' p mb (fun j=>if j=k then i else ib j) (fun j=>if j=k then n else nb j) (bY iC k x T):=by
 have hgl:∀b,g b≠ .none→b≠i∧b≠n:=fun b hb=>by have:=h.low b hb;omega
 have hgg:∀b,g b≠ .none→(if b=i then Own.item k else if b=n∧x.kind=2 then .names k else g b)=g b:=fun b hb=>by
  obtain⟨h1,h2⟩:=hgl b hb
  rw[if_neg h1,if_neg (fun h=>h2 h.1)]
 have hp:g p≠ .none:=by rw[h.nQ];simp
 have hmm:g mb≠ .none:=by rw[h.iW];simp
 refine⟨(hb p (h.low p hp) (fun e=>by have:=h.nQ;rw[e,h.iW]at this;cases this)).trans h.head,?_,?_,(hgg p hp).trans h.nQ,(hgg mb hmm).trans h.iW,?_,?_,?_,?_,fun b hb=>Nat.lt_of_lt_of_le (h.lG b hb) hsz⟩
 ·have e1:(bY iC k x T).map (fun q=>(q.1,ptr ((fun j=>if j=k then i else ib j) q.1)))=bY iC k (ptr i) (T.map fun q=>(q.1,ptr (ib q.1))):=by
   rw[rM iC (fun j _=>ptr ((fun j=>if j=k then i else ib j) j))]
   simp only[if_pos]
   congr 1
   apply List.map_congr_left
   intro q hq
   have:q.1≠k:=ji.1 hx0 q hq
   rw[if_neg this]
  rw[e1]
  exact hm
 ·intro j y hy
  rw[eX]at hy
  by_cases hj:j=k
  ·subst hj
   rw[if_pos rfl]at hy
   cases hy
   simp only[if_pos]
   exact hi
  ·rw[if_neg hj]at hy
   simp only[if_neg hj]
   have t1:=h.lF j y hy
   refine(h.item j y hy).move hsz (hb _ (h.low _ (by rw[t1];simp)) (fun e=>by rw[e,h.iW]at t1;cases t1)) (fun hk=>hb _ (h.low _ (by rw[h.ku j y hy hk];simp)) (fun e=>by have t2:=h.ku j y hy hk;rw[e,h.iW]at t2;cases t2)) ?_
   intro b yN hbw
   exact⟨yN,hb b hbw (fun e=>by have:=h.data b yN;rw[e,h.iW]at this;cases this)⟩
 ·intro j y hy
  rw[eX]at hy
  by_cases hj:j=k
  ·subst hj;simp
  ·rw[if_neg hj]at hy
   have t1:=h.lF j y hy
   simp only[if_neg hj]
   rw[hgg _ (by rw[t1];simp)]
   exact t1
 ·intro j y hy hk
  rw[eX]at hy
  by_cases hj:j=k
  ·subst hj
   rw[if_pos rfl]at hy
   cases hy
   simp only[if_pos]
   rw[if_neg (Ne.symm hin),if_pos ⟨trivial,hk⟩]
  ·rw[if_neg hj]at hy
   have t1:=h.ku j y hy hk
   simp only[if_neg hj]
   rw[hgg _ (by rw[t1];simp)]
   exact t1
 ·intro b yN
  have:=h.lG b yN
  rw[if_neg (by omega),if_neg (by omega)]
  exact h.data b yN
 ·intro b hbn
  by_cases h1:b=i
  ·omega
  ·by_cases h2:b=n∧x.kind=2
   ·have:=hnw h2.2;omega
   ·simp only[if_neg h1,if_neg h2]at hbn
    exact Nat.lt_of_lt_of_le (h.low b hbn) hsz
def lQ (left:Int→Bool) (T:aH):aH:=T.filter fun q=> !left q.1
theorem sw (left:Int→Bool) (T:aH) (k:Int):aj k (lQ left T)=if left k=true then none else aj k T:=by
 unfold lQ
 induction T with
 |nil=>simp[aj]
 |cons y r ih=>
  rw[List.filter_cons,fF]
  by_cases hl:left y.1=true
  ·simp only[hl,Bool.not_true,Bool.false_eq_true,if_false]
   rw[ih]
   by_cases hk:y.1=k
   ·subst hk;rw[if_pos hl,if_pos hl]
   ·rw[if_neg hk]
  ·simp only[hl,Bool.not_false,if_true]
   rw[fF,ih]
   by_cases hk:y.1=k
   ·subst hk;rw[if_pos rfl,if_neg hl,if_pos rfl]
   ·rw[if_neg hk,if_neg hk]
theorem qW {T:aH} (h:aP iC T) (left:Int→Bool):aP iC (lQ left T):=List.Pairwise.filter _ h
theorem zI {left:Int→Bool} {T:aH} (h:∀q∈T,left q.1=true):lQ left T=[]:=by
 unfold lQ
 rw[List.filter_eq_nil_iff]
 intro q hq
 simp[h q hq]
theorem Ej {left:Int→Bool} {T:aH} (h:∀k,left k=false):lQ left T=T:=by
 unfold lQ
 rw[List.filter_eq_self]
 intro q _
 simp[h q.1]
theorem Bo {left:Int→Bool} {T:aH} (hs:aP iC T) {k:Int} {x:bF} (hx:aj k T=some x) (h:left k=true):bY iC k x (lQ left T)=lQ (fun z=>left z&& !decide (z=k)) T:=by
 refine yJ dR ((qW hs left).bY dR k x) (qW hs _) fun j=> ?_
 rw[eX,sw,sw]
 by_cases hj:j=k
 ·subst hj
  rw[if_pos rfl,hx]
  simp
 ·rw[if_neg hj]
  simp[hj]
def fu (T:aH):aH:=(kD T).foldl (fun S id=>(dH S id).2) T
end Go.Proofs.YtohpcppeajijnaaGreat
