/- The reference's Save. -/
import Derived.Test.YtmabllemjkcobaaGreatM51
import Derived.Test.YtmabllemjkcobaaGreatM36
import Derived.Test.YtmabllemjkcobaaGreatM25
import Derived.BigQuiet
import Derived.Deep.QuietTactic
namespace Go.Proofs.YtmabllemjkcobaaGreat
open Go.ChangeShapes Go.WideShapes Go.ChangeAt Go.RowKit
set_option linter.unusedVariables false
set_option linter.unusedSimpArgs false
def Sy (e:iT):List UInt8:=rM e.2.1++gU e.2.2 2
def mY (E:List iT) (id:Int) (k:Nat):List UInt8:=((E.take k).filter fun e=>decide (e.1=id)).flatMap Sy
def qG (E:List iT) (id:Int) (k:Nat):Nat:=((E.take k).filter fun e=>decide (e.1=id)).length
theorem PW {E:List iT} {id:Int} {k:Nat} {e:iT} (hx:E[k]? =some e) (he:e.1=id):mY E id (k+1)=mY E id k++rM e.2.1++gU e.2.2 2∧qG E id (k+1)=qG E id k+1:=by
 obtain⟨hk,h⟩:=List.getElem?_eq_some_iff.1 hx
 unfold mY qG
 rw[List.take_succ_eq_append_getElem hk,List.filter_append,h]
 simp[he,Sy]
theorem Sz {E:List iT} {id:Int} {k:Nat} {e:iT} (hx:E[k]? =some e) (he:e.1≠id):mY E id (k+1)=mY E id k∧qG E id (k+1)=qG E id k:=by
 obtain⟨hk,h⟩:=List.getElem?_eq_some_iff.1 hx
 unfold mY qG
 rw[List.take_succ_eq_append_getElem hk,List.filter_append,h]
 simp[he]
theorem PX {T:aG} {id:Int} {x:bW} (hs:aS g_ T) (hx:aj id T=some x) {k:Nat} (hk:(aT T).length≤k):mY (aT T) id k=x.names.flatMap F8∧qG (aT T) id k=x.names.length:=by
 unfold mY qG
 rw[List.take_of_length_le hk,Ej hs hx,List.length_map,List.flatMap_map]
 exact⟨rfl,rfl⟩
theorem Mw {E:List iT} (hg:∀e∈E,e.2.1.length≤16) (id:Int) (k:Nat):(mY E id k).length≤20*k∧qG E id k≤k:=by
 have h2:(E.take k).length≤k:=List.length_take_le _ _
 have h3:=List.length_filter_le (fun e:iT=>decide (e.1=id)) (E.take k)
 refine⟨?_,by unfold qG;omega⟩
 have h1:∀L:List iT,(∀e∈L,e.2.1.length≤16)→(L.flatMap Sy).length≤20*L.length:=fun L hL=>by
  induction L with
  |nil=>simp
  |cons e r ih=>
   have h4:=hL e (by simp)
   have h5:=ih fun y hy=>hL y (by simp[hy])
   simp only[List.flatMap_cons,List.length_append,List.length_cons,Sy,qy,fD]
   omega
 have h6:=h1 ((E.take k).filter fun e=>decide (e.1=id)) fun e he=>hg e (List.mem_of_mem_take (List.mem_filter.1 he).1)
 unfold mY
 omega
def q9 (T:aG) (k:Nat):List UInt8:=gU T.length 2++(T.take k).flatMap fun q=>jY q.1 q.2
theorem Mx {T:aG} {k:Nat} {q:Int×bW} (hx:T[k]? =some q):q9 T (k+1)=q9 T k++jY q.1 q.2:=by
 obtain⟨hk,h⟩:=List.getElem?_eq_some_iff.1 hx
 unfold q9
 rw[List.take_succ_eq_append_getElem hk,List.flatMap_append,h,List.flatMap_cons,List.flatMap_nil,List.append_nil,List.append_assoc]
theorem PY {T:aG} {k:Nat} (hk:T.length≤k):q9 T k=iO T:=by
 unfold q9 iO
 rw[List.take_of_length_le hk]
theorem PZ {T:aG} (hT:dX T) (k:Nat):(q9 T k).length≤6000000:=by
 have h1:=qz hT (T.take k) (fun q hq=>List.mem_of_mem_take hq)
 have h2:=hT.len
 have h3:(T.take k).length≤T.length:=by rw[List.length_take];omega
 unfold q9
 rw[List.length_append,fD]
 omega
section
variable {F:Nat→Prop} {r:Nat} {T:aG}
set_option maxRecDepth 100000 in
set_option maxHeartbeats 16000000 in
theorem MB (w:World) (h:iq F w r T) (hT:dX T):Calls Tryz.prog 33 #[ptr r] w (iV w (iO T)):=by
 obtain⟨aN,cN,aD,cD,aE,cE,h1,h2,h3,h4,hN,hD,hE,-⟩:=h.head
 have hrw:=h.low r h.own
 have hlen:=hT.len
 have hef:=gQ hT
 have HT:=Lib.hid hT
 have HG:Hid (∀e∈aT T,e.2.1.length≤16):=fun e he=>by
  obtain⟨q,hq,hk,hm⟩:=ze he
  exact mq ((hT.each _ _ (bf dU hT.sorted hq)).good _ hm)
 have Ky:Hid (∀k,T.length≤k→q9 T k=iO T):=fun k hk=>PY hk
 have hdl:(T.map fun q=>q.2.b).length=T.length:=List.length_map _
 rw[hdl]at h1 h3
 obtain⟨N,hNe⟩:∃N,N=T.length:=⟨_,rfl⟩
 obtain⟨E,hEe⟩:∃E,E=aT T:=⟨_,rfl⟩
 rw[←hEe]at h1 h4 hE hef HG
 obtain⟨M,hMe⟩:∃M,M=E.length:=⟨_,rfl⟩
 rw[←hNe]at h1 h2 h3 hN hlen
 rw[←hMe]at h1 h4 hE hef
 have iA:=Lib.hid hNe
 have Bt:=Lib.hid hMe
 have Yo:=Lib.hid hEe
 have Ll:=Lib.hid hN
 have VB:=Lib.hid hD
 have Ws:=Lib.hid hE
 have HC:Hid (∀w',Below w.heap.size w w'→w'.cell? ⟨r,0,none⟩=some (.slice aN N cN)∧w'.cell? ⟨r,1,none⟩=some (.slice aD N cD)∧w'.cell? ⟨r,2,none⟩=some (.slice aE M cE)):=fun w' hb=>by
  have hh:=(hb.block r hrw).trans h1
  refine⟨?_,?_,?_⟩<;>simp[World.cell?,hh]
 have c0:=(HC.out w (Below.refl _ _)).1
 have Vd:Hid (∀w':World,Calls Tryz.prog 94 #[.slice none 0 0, .int .i64 (N:Int)] w' (iV w' (q9 T 0))):=fun w'=>by
  have e1:q9 T 0=[]++gU (N:Int) 2:=by unfold q9;rw[hNe];simp
  rw[e1]
  exact jL (S:=fun _=>True) none 0 0 [] (N:Int) w' (aC.nil _ _ _) (by omega) (by omega) (by omega)
 clear h hT h1 hN hD hE hdl hNe hMe hEe
 go_enter Tryz.func33,Tryz.ntmps33
 go_wp2_with fail
 (with_reducible refine(Vd.out _).mono ?_)
 rintro e w1 ⟨a1,c1,rfl,hown1,hb1⟩
 have rP:=Lib.hid hown1
 have HB1:=Lib.hid hb1
 clear hown1 hb1 c0
 go_wp2_with fail
 go_loopw [3,4] (fun bvv iv wr=>∃(k:Nat) (a:Option Addr) (c:Nat),k≤N∧iv= .int .i64 k∧bvv= .slice a (q9 T k).length c∧wr.ownsRow w.heap.size 5 1 (.slice a (q9 T k).length c) (q9 T k).length ((q9 T k).map bv)∧Below w.heap.size w wr) (fun _ iv _=>N-(intOf iv).toNat)
 case atStart=>exact⟨0,a1,c1,Nat.zero_le _,rfl,rfl,rP.out,HB1.out⟩
 case round=>
  obtain⟨k,a,c,hk,rfl,rfl,hown,hB⟩:=hrel
  have G_:=hB.size
  have c0:=(HC.out _ hB).1
  by_cases hlt:k<N
  ·have hd1:decide (k<N)=true:=by simpa using hlt
   have hx:T[k]? =some (T[k]'(by have:=iA.out;omega)):=List.getElem?_eq_getElem _
   obtain⟨q,hq⟩:∃q,q=T[k]'(by have:=iA.out;omega):=⟨_,rfl⟩
   rw[←hq]at hx
   have HX:=Lib.hid hx
   have OH:aj q.1 T=some q.2:=bf dU HT.out.sorted (List.mem_of_getElem? hx)
   have hok:=HT.out.each _ _ OH
   obtain⟨id0,id1⟩:=HT.out.ids _ _ OH
   have hsz:=hok.size
   obtain⟨bN,oN,rfl,-,hbN,-,El⟩:=Ll.out.wide fu iA.out.symm hx (by omega)
   have HNC:Hid (∀w',Below w.heap.size w w'→w'.cell? ⟨bN,oN+k*6,none⟩=some (.int .i64 q.1)∧w'.cell? ⟨bN,oN+k*6+1,none⟩=some (.int .i64 q.2.kind)∧w'.cell? ⟨bN,oN+k*6+2,none⟩=some (.int .i64 q.2.links)∧w'.cell? ⟨bN,oN+k*6+3,none⟩=some (.int .i64 q.2.b.length)∧w'.cell? ⟨bN,oN+k*6+4,none⟩=some (.int .u64 q.2.aQ)∧w'.cell? ⟨bN,oN+k*6+5,none⟩=some (.bool q.2.closed)):=fun w' hb=>by
    have hc:=fun j hj=>(hb.cell (p:=⟨bN,oN+k*6+j,none⟩) hbN).trans (El j hj)
    exact⟨hc 0 (by omega),hc 1 (by omega),hc 2 (by omega),hc 3 (by omega),hc 4 (by omega),hc 5 (by omega)⟩
   obtain⟨vs,hvr,hve⟩:=VB.out
   obtain⟨aB,cB,hvk,hcap,hrb⟩:=hve k q.2.b (by rw[List.getElem?_map,hx];rfl)
   obtain⟨bD,oD,rfl,-,hbD,hcD⟩:=hvr.at_ (by rw[List.length_map,←iA.out];omega)
   have HDC:Hid (∀w',Below w.heap.size w w'→w'.cell? ⟨bD,oD+k,none⟩=some (.slice aB q.2.b.length cB)):=fun w' hb=>
    ((hb.cell (p:=⟨bD,oD+k,none⟩) hbD).trans (hcD k (by rw[List.length_map,←iA.out];omega))).trans hvk
   have RN:Hid (∀w',Below w.heap.size w w'→aC (Off F r) w' aB q.2.b.length (q.2.b.map bv)):=fun w' hb=>hrb.below hb (Nat.le_refl _)
   have hl0:=PZ HT.out k
   obtain⟨L0,hL0⟩:∃L,L=q9 T k:=⟨_,rfl⟩
   rw[←hL0]at hown hl0⊢
   obtain⟨EN,Y_⟩:∃L,L=pR q.1 q.2:=⟨_,rfl⟩
   have hle:EN.length=16:=by rw[Y_];exact kR _ _
   obtain⟨L1,hL1⟩:∃L,L=L0++rM EN:=⟨_,rfl⟩
   have hl1:L1.length=L0.length+18:=by rw[hL1,List.length_append,qy,hle]
   obtain⟨L2,hL2⟩:∃L,L=L1++rM q.2.b:=⟨_,rfl⟩
   obtain⟨nb,hnb⟩:∃n,n=q.2.b.length:=⟨_,rfl⟩
   rw[←hnb]at hsz HNC HDC RN
   have hl2:L2.length=L0.length+20+nb:=by rw[hL2,List.length_append,qy,hl1,←hnb];omega
   have Ir:Hid (∀w':World,Calls Tryz.prog 96 #[.agg #[.int .i64 q.1, .int .i64 q.2.kind, .int .i64 q.2.links, .int .i64 nb, .int .u64 q.2.aQ, .bool q.2.closed]] w' (iV w' EN)):=fun w'=>by
    rw[Y_,hnb]
    exact Jz q.1 q.2 hok id0 id1 w'
   have K_:Hid (∀(B B':Nat) (w':World) (a a':Option Addr) (c c':Nat),w'.ownsRow B 5 1 (.slice a L0.length c) L0.length (L0.map bv)→w'.ownsRow B' 5 1 (.slice a' EN.length c') EN.length (EN.map bv)→Calls Tryz.prog 95 #[.slice a L0.length c, .slice a' EN.length c'] w' (iV w' L1)):=fun B B' w' a a' c c' h h'=>by
    rw[hL1]
    exact sZ a _ c L0 a' _ c' EN w' (iy h) (iy h') (by omega) (by omega)
   have Uq:Hid (∀(B:Nat) (w':World) (a:Option Addr) (c:Nat),w'.ownsRow B 5 1 (.slice a L1.length c) L1.length (L1.map bv)→Below w.heap.size w w'→Calls Tryz.prog 95 #[.slice a L1.length c, .slice aB nb cB] w' (iV w' L2)):=fun B w' a c h hb=>by
    rw[hL2]
    have h9:=sZ a _ c L1 aB nb cB q.2.b w' (iy h) (RN.out w' hb) (by omega) (by omega)
    rw[hnb]at h9⊢
    exact h9
   have YJ:=Lib.hid (PX HT.out.sorted OH (k:=M) (by rw[Bt.out,Yo.out];exact Nat.le_refl _))
   rw[←Yo.out]at YJ
   have HEL:=Lib.hid (fun j=>Mw HG.out q.1 j)
   obtain⟨cb,hcb⟩:∃L,L=mY E q.1 M:=⟨_,rfl⟩
   obtain⟨cn,hcn⟩:∃n,n=qG E q.1 M:=⟨_,rfl⟩
   obtain⟨Yx,hcnl⟩:=HEL.out M
   rw[←hcb]at Yx
   rw[←hcn]at hcnl
   obtain⟨L3,hL3⟩:∃L,L=L2++gU (cn:Int) 2:=⟨_,rfl⟩
   have hl3:L3.length=L0.length+22+nb:=by rw[hL3,List.length_append,fD,hl2];omega
   have Wd:Hid (∀(B:Nat) (w':World) (a:Option Addr) (c:Nat),w'.ownsRow B 5 1 (.slice a L2.length c) L2.length (L2.map bv)→Calls Tryz.prog 94 #[.slice a L2.length c, .int .i64 (cn:Int)] w' (iV w' L3)):=fun B w' a c h=>by
    rw[hL3]
    exact jL a _ c L2 (cn:Int) w' (iy h) (by omega) (by omega) (by omega)
   have mV:Hid (q9 T (k+1)=L3++cb):=by
    show q9 T (k+1)=L3++cb
    rw[Mx hx,←hL0,hL3,hL2,hL1,Y_,hcb,hcn,YJ.out.1,YJ.out.2]
    unfold jY
    simp only[List.append_assoc]
   have HO:=Lib.hid hown
   have HB:=Lib.hid hB
   have MI:=Lib.hid hlt
   have HL3:=Lib.hid hl3
   have HL2:=Lib.hid hl2
   have X5:=Lib.hid hcb
   have Y3:=Lib.hid hcn
   have hk0:(0:Int)≤(k:Int):=by omega
   have hk1:(k:Int)<(N:Int):=by omega
   have hl0':=hl0
   have HH:Hid (∀w',Below w.heap.size w w'→w'.cell? ⟨r,0,none⟩=some (.slice (some ⟨bN,oN,none⟩) N cN)∧w'.cell? ⟨r,1,none⟩=some (.slice (some ⟨bD,oD,none⟩) N cD)∧w'.cell? ⟨bN,oN+k*6,none⟩=some (.int .i64 q.1)∧w'.cell? ⟨bN,oN+k*6+1,none⟩=some (.int .i64 q.2.kind)∧w'.cell? ⟨bN,oN+k*6+2,none⟩=some (.int .i64 q.2.links)∧w'.cell? ⟨bN,oN+k*6+3,none⟩=some (.int .i64 nb)∧w'.cell? ⟨bN,oN+k*6+4,none⟩=some (.int .u64 q.2.aQ)∧w'.cell? ⟨bN,oN+k*6+5,none⟩=some (.bool q.2.closed)∧w'.cell? ⟨bD,oD+k,none⟩=some (.slice aB nb cB)):=fun w' hb=>by
    obtain⟨y0,y1,-⟩:=HC.out w' hb
    obtain⟨n0,n1,n2,n3,n4,n5⟩:=HNC.out w' hb
    exact⟨y0,y1,n0,n1,n2,n3,n4,n5,HDC.out w' hb⟩
   clear hx hq OH hok hvr hve hvk hcap hrb hcD El hL0 Y_ hle hL1 hl1 hL2 hl2 hnb hcb hcn hL3 hl3 hown hB hlt hl0
   go_wp2_with fail
   refine wp_region_noPanic ?_
   refine wp_region_held_drew (S:=(fun w'=>w'.cell? ⟨r,0,none⟩=some (.slice (some ⟨bN,oN,none⟩) N cN)∧w'.cell? ⟨r,1,none⟩=some (.slice (some ⟨bD,oD,none⟩) N cD)∧w'.cell? ⟨bN,oN+k*6,none⟩=some (.int .i64 q.1)∧w'.cell? ⟨bN,oN+k*6+1,none⟩=some (.int .i64 q.2.kind)∧w'.cell? ⟨bN,oN+k*6+2,none⟩=some (.int .i64 q.2.links)∧w'.cell? ⟨bN,oN+k*6+3,none⟩=some (.int .i64 nb)∧w'.cell? ⟨bN,oN+k*6+4,none⟩=some (.int .u64 q.2.aQ)∧w'.cell? ⟨bN,oN+k*6+5,none⟩=some (.bool q.2.closed)∧w'.cell? ⟨bD,oD+k,none⟩=some (.slice aB nb cB))) (by kernel_rfl) ?_ (fun hS=> ?_)
   ·exact HH.out _ HB.out.drew
   refine aV 0 (hS:=hS) (h:= ?_)
   refine aV 1 (hS:=hS) (h:= ?_)
   refine aV 2 (hS:=hS) (h:= ?_)
   refine aV 3 (hS:=hS) (h:= ?_)
   refine aV 4 (hS:=hS) (h:= ?_)
   refine aV 5 (hS:=hS) (h:= ?_)
   refine aV 6 (hS:=hS) (h:= ?_)
   refine aV 7 (hS:=hS) (h:= ?_)
   refine aV 10 (hS:=hS) (h:= ?_)
   refine aV 11 (hS:=hS) (h:= ?_)
   refine aV 12 (hS:=hS) (h:= ?_)
   refine aV 13 (hS:=hS) (h:= ?_)
   refine aV 14 (hS:=hS) (h:= ?_)
   refine aV 15 (hS:=hS) (h:= ?_)
   refine aV 16 (hS:=hS) (h:= ?_)
   refine lJ 8 (h:=fun K hK=> ?_)
   go_simp
   (with_reducible refine(Ir.out _).mono ?_)
   rintro e w4 ⟨a4,c4,rfl,KE,GX⟩
   have hb4:Below w.heap.size w w4:=HB.out.drew.trans (GX.mono G_)
   have Yt:=Lib.hid KE
   have VP:=Lib.hid (own_below (w:=wr.drew) (w':=w4) HO.out GX)
   clear KE
   go_simp
   refine hK.out _ _ (HH.out _ hb4) (fun hS=> ?_)
   clear hK K
   try simp only[Act.put,List.setIfInBounds_toArray,List.set_cons_zero,List.set_cons_succ]
   refine lJ 9 (h:=fun K hK=> ?_)
   go_simp
   (with_reducible refine(K_.out _ _ _ _ _ _ _ VP.out Yt.out).mono ?_)
   rintro e w5 ⟨a5,c5,rfl,hown5,Sq⟩
   have hb5:Below w.heap.size w w5:=hb4.trans (Sq.mono hb4.size)
   have HO5:=Lib.hid hown5
   clear hown5
   go_simp
   refine hK.out _ _ (HH.out _ hb5) (fun hS=> ?_)
   clear hK K
   try simp only[Act.put,List.setIfInBounds_toArray,List.set_cons_zero,List.set_cons_succ]
   refine lJ 17 (h:=fun K hK=> ?_)
   go_simp
   (with_reducible refine(Uq.out _ _ _ _ HO5.out hb5).mono ?_)
   rintro e w6 ⟨a6,c6,rfl,hown6,Sr⟩
   have hb6:Below w.heap.size w w6:=hb5.trans (Sr.mono hb5.size)
   have HO6:=Lib.hid (uZ hown6 (Nat.zero_le _))
   clear hown6
   go_simp
   refine hK.out _ _ (HH.out _ hb6) (fun hS=> ?_)
   clear hK K
   try simp only[Act.put,List.setIfInBounds_toArray,List.set_cons_zero,List.set_cons_succ]
   refine lJ 18 (h:=fun K hK=> ?_)
   go_simp
   refine hK.out _ _ (HH.out _ hb6) (fun hS=> ?_)
   clear hK K
   try simp only[Act.put,List.setIfInBounds_toArray,List.set_cons_zero,List.set_cons_succ]
   refine wpAnyH_done (by kernel_rfl) ?_ _
   refine NoPanic.normal ?_
   have ou:=Lib.hid hb6
   have hs6:=hb6.size
   clear GX Sq Sr hb4 hb5 hb6
   go_wp2_with fail
   obtain⟨wo,rfl⟩:∃wo:World,wo=wr:=⟨_,rfl⟩
   go_loopw [5,6,7] (fun nv lv kv wr=>∃(j:Nat) (a:Option Addr) (c:Nat),j≤M∧kv= .int .i64 j∧nv= .int .i64 (qG E q.1 j)∧lv= .slice a (mY E q.1 j).length c∧wr.ownsRow w6.heap.size 5 1 (.slice a (mY E q.1 j).length c) (mY E q.1 j).length ((mY E q.1 j).map bv)∧Below w6.heap.size w6 wr) (fun _ _ kv _=>M-(intOf kv).toNat)
   case atStart=>exact⟨0,none,0,Nat.zero_le _,rfl,rfl,rfl,⟨rfl, .inl ⟨rfl,rfl⟩⟩,Below.refl _ _⟩
   case round=>
    obtain⟨j,a7,c7,hj,rfl,rfl,rfl,G6,yF⟩:=hrel
    have hBs7:=yF.size
    have hBw:Below w.heap.size w wr:=ou.out.trans (yF.mono hs6)
    have y2:=(HC.out _ hBw).2.2
    obtain⟨hel,hen⟩:=HEL.out j
    by_cases hjm:j<M
    ·have hd2:decide (j<M)=true:=by simpa using hjm
     have hx:E[j]? =some (E[j]'(by have:=Bt.out;omega)):=List.getElem?_eq_getElem _
     obtain⟨e,he⟩:∃e,e=E[j]'(by have:=Bt.out;omega):=⟨_,rfl⟩
     rw[←he]at hx
     have hnm:=HG.out e (List.mem_of_getElem? hx)
     obtain⟨bE,oE,rfl,-,hbE,-,Yp⟩:=Ws.out.wide iN Bt.out.symm hx (by omega)
     have VU:Hid (∀w',Below w.heap.size w w'→w'.cell? ⟨bE,oE+j*3,none⟩=some (.int .i64 e.1)∧w'.cell? ⟨bE,oE+j*3+1,none⟩=some (.string (strOf e.2.1))∧w'.cell? ⟨bE,oE+j*3+2,none⟩=some (.int .i64 e.2.2)):=fun w' hb=>by
      have hc:=fun i hi=>(hb.cell (p:=⟨bE,oE+j*3+i,none⟩) hbE).trans (Yp i hi)
      exact⟨hc 0 (by omega),hc 1 (by omega),hc 2 (by omega)⟩
     have y0:=(HH.out _ hBw).1
     have n0:=(HH.out _ hBw).2.2.1
     have e0:=(VU.out _ hBw).1
     have Za:=Lib.hid hjm
     have hj0:(0:Int)≤(j:Int):=by omega
     have hj1:(j:Int)<(M:Int):=by omega
     have WE:=Lib.hid G6
     have pO:=Lib.hid yF
     have HX:=Lib.hid hx
     clear G6 yF hx he Yp hjm
     by_cases hp:e.1=q.1
     ·have hpp:(e.1==q.1)=true:=by simpa using hp
      obtain⟨hyb,hyn⟩:=PW HX.out hp
      obtain⟨C0,hC0⟩:∃L,L=mY E q.1 j:=⟨_,rfl⟩
      obtain⟨C1,Yy⟩:∃L,L=C0++rM e.2.1:=⟨_,rfl⟩
      obtain⟨C2,hC2⟩:∃L,L=C1++gU e.2.2 2:=⟨_,rfl⟩
      rw[←hC0,←Yy,←hC2]at hyb
      rw[←hC0]at hel WE⊢
      obtain⟨nm,V4⟩:∃nm,nm=e.2.1:=⟨_,rfl⟩
      rw[←V4]at hnm Yy
      have hlc1:C1.length≤20*j+18:=by rw[Yy,List.length_append,qy];omega
      obtain⟨TK,SA⟩:∃TK,TK=e.2.2:=⟨_,rfl⟩
      have SK:0≤TK∧TK≤65535:=by
       have hm:e∈aT T:=by rw[←Yo.out];exact List.mem_of_getElem? HX.out
       obtain⟨x,hx1,hx2⟩:=(jU HT.out.sorted).1 hm
       obtain⟨y,hy⟩:=Option.isSome_iff_exists.1 (HT.out.leads _ x hx1 e.2 hx2).1
       rw[SA]
       exact HT.out.ids _ _ hy
      obtain⟨hei0,hei1⟩:=SK
      obtain⟨dn,hdn⟩:∃n,n=qG E q.1 j:=⟨_,rfl⟩
      rw[←hdn]at hen hyn⊢
      have HZ2:Hid (∀(B:Nat) (w':World) (a:Option Addr) (c:Nat),w'.ownsRow B 5 1 (.slice a C1.length c) C1.length (C1.map bv)→Calls Tryz.prog 94 #[.slice a C1.length c, .int .i64 TK] w' (iV w' C2)):=fun B w' a c h=>by
       rw[hC2,←SA]
       exact jL a _ c C1 TK w' (iy h) (by omega) hei0 (by omega)
      have HZ1:Hid (∀(B:Nat) (w':World) (a:Option Addr) (c:Nat) (a':Option Addr) (c':Nat) (S':Nat→Prop),w'.ownsRow B 5 1 (.slice a C0.length c) C0.length (C0.map bv)→aC S' w' a' nm.length (nm.map bv)→Calls Tryz.prog 95 #[.slice a C0.length c, .slice a' nm.length c'] w' (iV w' C1)):=fun B w' a c a' c' S' h h'=>by
       rw[Yy]
       exact sZ a _ c C0 a' _ c' nm w' (iy h) h' (by omega) (by omega)
      have VW:Hid (∀w',Below w.heap.size w w'→w'.cell? ⟨r,2,none⟩=some (.slice (some ⟨bE,oE,none⟩) M cE)∧w'.cell? ⟨bE,oE+j*3+1,none⟩=some (.string (strOf nm))∧w'.cell? ⟨bE,oE+j*3+2,none⟩=some (.int .i64 TK)):=fun w' hb=>by
       rw[V4,SA]
       exact⟨(HC.out w' hb).2.2,(VU.out w' hb).2.1,(VU.out w' hb).2.2⟩
      have Yz:=Lib.hid hyb
      have T9:=Lib.hid hyn
      have Jk:=Lib.hid hBw
      clear hp hyb hyn hC0 Yy hC2 V4 SA hdn hBw
      go_wp2_with fail
      go_quiet (fail)
      have HBQ:Hid (Below w.heap.size w (wr.drewN nq)):=Jk.out.trans ⟨rfl,rfl,rfl,Nat.le_refl _,fun _ _=>rfl⟩
      have YA:Hid (Below w6.heap.size w6 (wr.drewN nq)):=pO.out.trans ⟨rfl,rfl,rfl,Nat.le_refl _,fun _ _=>rfl⟩
      have HO7Q:Hid ((wr.drewN nq).ownsRow w6.heap.size 5 1 (.slice a7 C0.length c7) C0.length (C0.map bv)):=own_below WE.out ⟨rfl,rfl,rfl,Nat.le_refl _,fun _ _=>rfl⟩
      clear y0 n0 e0 y2 WE Jk pO hBs7
      generalize wr.drewN nq=wq at*
      have hs7:=YA.out.size
      go_wp2_with fail
      obtain⟨cn9,wc,hrun,hbc,hltc,Tc,hcells⟩:=F9 wq.drew nm (by omega)
      have hrow:aC (fun b=>b=wq.heap.size) wc (some ⟨wq.heap.size,0,none⟩) nm.length (nm.map bv):=hcells
      have BQ:=Lib.hid hrow
      have V5:Below w6.heap.size w6 wc:=YA.out.drew.trans (hbc.mono hs7)
      have KG:Below w.heap.size w wc:=HBQ.out.drew.trans (hbc.mono HBQ.out.size)
      have HOC:Hid (wc.ownsRow w6.heap.size 5 1 (.slice a7 C0.length c7) C0.length (C0.map bv)):=own_below (w:=wq.drew) HO7Q.out hbc
      clear hcells hrow
      refine wp_region_noPanic ?_
      refine wp_region_held_drew (S:=(fun w'=>w'.cell? ⟨r,2,none⟩=some (.slice (some ⟨bE,oE,none⟩) M cE)∧w'.cell? ⟨bE,oE+j*3+1,none⟩=some (.string (strOf nm))∧w'.cell? ⟨bE,oE+j*3+2,none⟩=some (.int .i64 TK))) (by kernel_rfl) ?_ (fun hS=> ?_)
      ·exact VW.out _ HBQ.out.drew
      refine aV 0 (hS:=hS) (h:= ?_)
      refine aV 1 (hS:=hS) (h:= ?_)
      refine aV 2 (hS:=hS) (h:= ?_)
      refine aV 3 (hS:=hS) (h:= ?_)
      refine aV 4 (hS:=hS) (h:= ?_)
      refine aV 5 (hS:=hS) (h:= ?_)
      refine aV 6 (hS:=hS) (h:= ?_)
      refine aV 7 (hS:=hS) (h:= ?_)
      refine aV 8 (hS:=hS) (h:= ?_)
      refine aV 11 (hS:=hS) (h:= ?_)
      refine aV 12 (hS:=hS) (h:= ?_)
      refine aV 13 (hS:=hS) (h:= ?_)
      refine aV 14 (hS:=hS) (h:= ?_)
      refine aV 15 (hS:=hS) (h:= ?_)
      refine aV 16 (hS:=hS) (h:= ?_)
      refine aV 17 (hS:=hS) (h:= ?_)
      refine aV 18 (hS:=hS) (h:= ?_)
      refine lJ 9 (h:=fun K hK=> ?_)
      go_simp
      refine hK.out _ _ (VW.out _ KG) (fun hS=> ?_)
      clear hK K
      try simp only[Act.put,List.setIfInBounds_toArray,List.set_cons_zero,List.set_cons_succ]
      refine lJ 10 (h:=fun K hK=> ?_)
      go_simp
      (with_reducible refine(HZ1.out _ _ _ _ _ _ _ HOC.out BQ.out).mono ?_)
      rintro e w8 ⟨a8,c8,rfl,DR,V6⟩
      have uR:Below w.heap.size w w8:=KG.trans (V6.mono KG.size)
      have SB:Below w6.heap.size w6 w8:=V5.trans (V6.mono V5.size)
      have Wp:=Lib.hid DR
      clear DR
      go_simp
      refine hK.out _ _ (VW.out _ uR) (fun hS=> ?_)
      clear hK K
      try simp only[Act.put,List.setIfInBounds_toArray,List.set_cons_zero,List.set_cons_succ]
      refine lJ 19 (h:=fun K hK=> ?_)
      go_simp
      (with_reducible refine(HZ2.out _ _ _ _ Wp.out).mono ?_)
      rintro e w9 ⟨a9,c9,rfl,G7,V7⟩
      have oW:Below w.heap.size w w9:=uR.trans (V7.mono uR.size)
      have YB:Below w6.heap.size w6 w9:=SB.trans (V7.mono SB.size)
      have HO9:=Lib.hid (uZ G7 SB.size)
      clear G7
      go_simp
      refine hK.out _ _ (VW.out _ oW) (fun hS=> ?_)
      clear hK K
      try simp only[Act.put,List.setIfInBounds_toArray,List.set_cons_zero,List.set_cons_succ]
      refine lJ 20 (h:=fun K hK=> ?_)
      go_simp
      refine hK.out _ _ (VW.out _ oW) (fun hS=> ?_)
      clear hK K
      try simp only[Act.put,List.setIfInBounds_toArray,List.set_cons_zero,List.set_cons_succ]
      refine wpAnyH_done (by kernel_rfl) ?_ _
      refine NoPanic.normal ?_
      have HB96:=Lib.hid YB
      clear V6 V7 uR SB oW YB hrun hbc V5 KG
      go_wp2_with fail
      go_roundw
      case rel=>exact⟨j+1,a9,c9,Za.out,by go_num,by rw[T9.out];go_num,by rw[Yz.out],by rw[Yz.out];exact HO9.out,HB96.out⟩
      case measure=>have:=Za.out;simp[intOf];omega
     ·have hpp:(e.1==q.1)=false:=by simpa using hp
      obtain⟨hyb,hyn⟩:=Sz HX.out hp
      have Yz:=Lib.hid hyb
      have T9:=Lib.hid hyn
      clear hp hyb hyn hBw
      go_wp2_with fail
      go_quiet (fail)
      go_wp2_with fail
      go_roundw
      case rel=>exact⟨j+1,a7,c7,Za.out,by go_num,by rw[T9.out],by rw[Yz.out],by rw[Yz.out];exact own_below WE.out ⟨rfl,rfl,rfl,Nat.le_refl _,fun _ _=>rfl⟩,pO.out.trans ⟨rfl,rfl,rfl,Nat.le_refl _,fun _ _=>rfl⟩⟩
      case measure=>have:=Za.out;simp[intOf];omega
    ·have hd2:decide (j<M)=false:=by simpa using hjm
     obtain rfl:j=M:=by omega
     rw[←X5.out]at G6⊢
     rw[←Y3.out]
     have WE:=Lib.hid G6
     have Jk:=Lib.hid hBw
     have HO6B:=Lib.hid (own_below HO6.out yF)
     clear G6 yF hBw hjm hel hen
     go_wp2_with fail
     (with_reducible refine(Wd.out _ _ _ _ HO6B.out).mono ?_)
     rintro e w8 ⟨a8,c8,rfl,DR,uR⟩
     have V8:Below w.heap.size w w8:=Jk.out.trans (uR.mono Jk.out.size)
     have Vp:=Lib.hid ((iy WE.out).below uR (Nat.le_refl _))
     have Wp:=Lib.hid (uZ DR Jk.out.size)
     have vY:=Lib.hid V8
     have HG8:Hid (∀b,(Value.slice a8 L3.length c8).ownBlock=some b→w.heap.size≤b):=fun b hb=>Jv (uZ DR Jk.out.size) hb
     obtain⟨i8,hi⟩:∃i,Tryz.prog.info? 5=some i∧i.zero=some (.int .u8 0)∧i.size=1∧i.bytes=1:=info_parts (by kernel_rfl)
     have HI:=Lib.hid hi
     have hl3:=HL3.out
     obtain⟨n3,WU⟩:∃n,n=L3.length:=⟨_,rfl⟩
     obtain⟨n7,hn7⟩:∃n,n=cb.length:=⟨_,rfl⟩
     rw[←WU]at hl3 Wp HG8⊢
     rw[←hn7]at Vp Yx⊢
     have HN3:=Lib.hid WU
     have HN7:=Lib.hid hn7
     have oC:=V8.size
     have hl3i:n3≤L0.length+22+nb:=Nat.le_of_eq hl3
     clear DR uR V8 hi WU hn7 hl3
     go_wp2_with (at_builtin;go_loud (refine bM rfl _ _ 39 rfl w.heap.size 5 i8 _ 1 Tryz.underlying39 HI.out.1 HI.out.2.1 HI.out.2.2.1 HI.out.2.2.2 rfl _ n3 (L3.map bv) rfl Wp.out a7 n7 c7 (cb.map bv) rfl Vp.out (iw cb) (by unfold maxLen;omega) (by omega) oC ?_;intro A9 c9 u9 G7 XR _ hat9;have X9:=Lib.hid (ji XR HG8.out vY.out);have HO9:=Lib.hid G7;clear G7 XR hat9))
     go_roundw
     case rel=>
      have e8:(q9 T (k+1)).length=n3+n7:=by rw[mV.out,List.length_append,HN3.out,HN7.out]
      refine⟨k+1,A9,c9,MI.out,by go_num,by rw[e8],?_,X9.out⟩
      rw[e8,mV.out,List.map_append]
      exact HO9.out
     case measure=>have:=MI.out;simp only[intOf];omega
  ·have hd1:decide (k<N)=false:=by simpa using hlt
   have HO:=Lib.hid hown
   have HB:=Lib.hid hB
   have hkN:T.length≤k:=by have:=iA.out;omega
   have Zn:=Lib.hid (Ky.out k hkN)
   clear hown hB hkN
   go_wp2_with fail
   go_ret
   have e1:=Zn.out
   rw[←e1]
   exact⟨a,c,rfl,HO.out,HB.out⟩
end
end Go.Proofs.YtmabllemjkcobaaGreat
