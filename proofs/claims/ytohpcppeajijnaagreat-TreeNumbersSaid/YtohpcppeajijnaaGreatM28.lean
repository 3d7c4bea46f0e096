/- The reference: Link. The reference: List. -/
import Derived.Test.YtohpcppeajijnaaGreatM27
namespace Go.Proofs.YtohpcppeajijnaaGreat
open Go.ChangeShapes Go.WideShapes Go.ChangeAt Go.RowKit
set_option linter.unusedVariables false
set_option linter.unusedSimpArgs false
theorem D_ {T:aH} {p q:List Nm} {v:Int} (h:jl T p q=v) (hv:v≠0):aO T p q=(v,T):=by
 unfold aO
 rw[h,if_neg hv]
theorem Bl {T:aH} {p q:List Nm} (h:jl T p q=0):aO T p q=(0,uG T p q):=by
 unfold aO
 rw[h,if_pos rfl]
theorem eT (w:World) (cs:Array Value) (t:TypeId) (j:Nat):(w.alloc (.cells cs t)).cell? ⟨w.heap.size,j,none⟩=cs[j]? :=by
 have:=(MapKept.heap_alloc w (.cells cs t)).1
 unfold World.cell?
 simp only[this]
 rfl
section
variable {F:Nat→Prop} {r:Nat} {T:aH}
theorem bA.no {w w':World} {v:Int} (h:gU F w r T) (hb:Below w.heap.size w w') {q:Int×aH} (hq:q=(v,T)):bA F w r q.2 (.int .i64 q.1) (.returned (.int .i64 v)) w':=by
 rw[hq]
 exact dh.same h hb
set_option maxRecDepth 100000 in
set_option maxHeartbeats 8000000 in
theorem Ea {S S':Nat→Prop} (a:Option Addr) (n c:Nat) (ls:List Nm) (a':Option Addr) (n' c':Nat) (ls':List Nm) (w:World) (h:gU F w r T) (hT:dA T) (hS:aG S w a n (ls.map strOf)) (hS':aG S' w a' n' (ls'.map strOf)) (hc':n'≤c') (ny:n'≤1000000):
  Calls Tryz.prog 17 #[ptr r, .slice a n c, .slice a' n' c'] w (bA F w r (aO T ls ls').2 (.int .i64 (aO T ls ls').1)):=by
 have hE:(aU T).length≤1000000:=by have:=gZ hT;omega
 have H1:=Lib.hid (sS a n c ls a' n' c' ls' w hS hS')
 have H2:=Lib.hid (fun w1 (hb:Below w.heap.size w w1)=>pq a n c ls w1 (h.below hb (Nat.le_refl _)) hT hE (hS.below hb (Nat.le_refl _)))
 have H3:=Lib.hid (fun w1 (hb:Below w.heap.size w w1)=>jQ a' n' c' ls' w1 (h.below hb (Nat.le_refl _)) hT hE (hS'.below hb (Nat.le_refl _)) hc' ny)
 have H4:=Lib.hid (fun w1 (hb:Below w.heap.size w w1) id=>jO id w1 (h.below hb (Nat.le_refl _)) hT.totF)
 have H5:=Lib.hid (fun w1 (hb:Below w.heap.size w w1) d nm=>iP d nm w1 (h.below hb (Nat.le_refl _)) hE)
 have HH:=Lib.hid h
 have HT:=Lib.hid hT
 have HB:=Lib.hid (fun(v:Int) (hv:v≠0) (he:jl T ls ls'=v)=>D_ he hv)
 have HG:=Lib.hid (Bl (T:=T) (p:=ls) (q:=ls'))
 have hr0:=h.low r h.own
 unfold jl at HB HG
 have Cx:=Lib.hid (fA hT ls 0 (dW hT))
 have Si:=Lib.hid (fV (p:=ls') hT)
 unfold uG at HG
 generalize ig ls ls'=f0 at H1 HB HG
 generalize aF T 0 ls=lk at H2 HB HG Cx
 generalize aC T ls'=pl at H3 HB HG Si
 obtain⟨id,e1⟩:=lk
 obtain⟨d2,n2,e2⟩:=pl
 simp only at H2 H3 HB HG Cx Si
 generalize aO T ls ls'=res at HB HG⊢
 clear h hT hS hS' hE
 by_cases h0:f0=0
 ·subst h0
  by_cases h1:e1=0
  ·subst h1
   obtain⟨y,hy⟩:=Option.isSome_iff_exists.1 (Cx.out rfl)
   have rE:=Lib.hid (fun w1 hb=>H4.out w1 hb id)
   have hnd:jy T id=iM id y:=by unfold jy;rw[hy]
   rw[hnd]at rE
   unfold iM at rE
   have hky:bZ T id=y.kind:=b_ hy
   have Sj:mZ T id=y.links:=by unfold mZ;rw[hy]
   rw[hky,Sj]at HB
   rw[hky,Sj]at HG
   have HY:=Lib.hid hy
   have hlk:=(HT.out.each id y hy).links
   clear hnd hky Sj hy H4
   by_cases h2:y.kind=2
   ·have hk1:(y.kind==2)=true:=by simpa using h2
    have HQ:=Lib.hid (HB.out 22 (by omega) (by rw[if_neg (by simp),if_neg (by simp),if_pos h2]))
    clear h2
    go_enter Tryz.func17,Tryz.ntmps17
    go_wp2_with fail
    (with_reducible refine H1.out.mono ?_)
    rintro e w1 ⟨rfl,hb1⟩
    have HB1:=Lib.hid hb1
    clear hb1
    go_wp2_with fail
    (with_reducible refine(H2.out w1 HB1.out).mono ?_)
    rintro e w2 ⟨rfl,hb2⟩
    have HB2:=Lib.hid (HB1.out.trans (hb2.mono HB1.out.size))
    clear hb2
    go_wp2_with fail
    (with_reducible refine(rE.out w2 HB2.out).mono ?_)
    rintro e w3 ⟨rfl,hb3⟩
    have HB3:=Lib.hid (HB2.out.trans (hb3.mono HB2.out.size))
    have hz3:=HB3.out.size
    clear hb3
    go_wp2_with fail
    go_ret
    exact bA.no HH.out (HB3.out.trans ((wall w3 _).mono HB3.out.size)) HQ.out
   ·have hk1:(y.kind==2)=false:=by simpa using h2
    by_cases h3:e2=0
    ·subst h3
     obtain⟨x,hx,hxk,hxm⟩:=Si.out rfl
     have hnm:bB T d2=x.names:=dQ hx
     rw[hnm]at HB
     rw[hnm]at HG
     have pU:=Lib.hid (fun w1 hb=>H5.out w1 hb d2 n2)
     cases hn:aj n2 x.names with
     |some j=>
      obtain⟨m,hm1,hm2⟩:=mK HT.out.totF hx hn
      rw[hm1]at pU
      have m0:¬(m:Int)<0:=by omega
      have m1:(0:Int)≤m:=by omega
      have HQ:=Lib.hid (HB.out 21 (by omega) (by rw[if_neg (by simp),if_neg (by simp),if_neg h2,if_neg (by simp),hn];rfl))
      clear h2 hn hx hxk hxm hnm hm1 hm2
      go_enter Tryz.func17,Tryz.ntmps17
      go_wp2_with fail
      (with_reducible refine H1.out.mono ?_)
      rintro e w1 ⟨rfl,hb1⟩
      have HB1:=Lib.hid hb1
      clear hb1
      go_wp2_with fail
      (with_reducible refine(H2.out w1 HB1.out).mono ?_)
      rintro e w2 ⟨rfl,hb2⟩
      have HB2:=Lib.hid (HB1.out.trans (hb2.mono HB1.out.size))
      clear hb2
      go_wp2_with fail
      (with_reducible refine(rE.out w2 HB2.out).mono ?_)
      rintro e w3 ⟨rfl,hb3⟩
      have HB3:=Lib.hid (HB2.out.trans (hb3.mono HB2.out.size))
      have hz3:=HB3.out.size
      clear hb3
      go_wp2_with fail
      (with_reducible refine(H3.out _ (HB3.out.trans ((wall w3 _).mono HB3.out.size))).mono ?_)
      rintro e w4 ⟨rfl,hb4⟩
      have eG:=Lib.hid ((HB3.out.trans ((wall w3 _).mono HB3.out.size)).trans (hb4.mono (by simp;omega)))
      have q4:w4.cell? ⟨w3.heap.size,2,none⟩=some (.int .i64 y.links):=by rw[hb4.cell (p:=⟨w3.heap.size,2,none⟩) (by simp)];exact eT w3 _ _ 2
      have tK:w3.heap.size<w4.heap.size:=by have:=hb4.size;simp at this;omega
      clear hb4
      go_wp2_with fail
      (with_reducible refine(pU.out w4 eG.out).mono ?_)
      rintro e w5 ⟨rfl,rfl⟩
      go_wp2_with fail
      go_ret
      exact bA.no HH.out eG.out HQ.out
     |none=>
      rw[oH HT.out.sorted hx hn]at pU
      by_cases h4:64≤y.links
      ·have HQ:=Lib.hid (HB.out 4 (by omega) (by rw[if_neg (by simp),if_neg (by simp),if_neg h2,if_neg (by simp),hn,if_neg (by simp),if_pos h4]))
       have hd4:decide ((64:Int)≤y.links)=true:=by simpa using h4
       clear h2 hn hx hxk hxm hnm
       go_enter Tryz.func17,Tryz.ntmps17
       go_wp2_with fail
       (with_reducible refine H1.out.mono ?_)
       rintro e w1 ⟨rfl,hb1⟩
       have HB1:=Lib.hid hb1
       clear hb1
       go_wp2_with fail
       (with_reducible refine(H2.out w1 HB1.out).mono ?_)
       rintro e w2 ⟨rfl,hb2⟩
       have HB2:=Lib.hid (HB1.out.trans (hb2.mono HB1.out.size))
       clear hb2
       go_wp2_with fail
       (with_reducible refine(rE.out w2 HB2.out).mono ?_)
       rintro e w3 ⟨rfl,hb3⟩
       have HB3:=Lib.hid (HB2.out.trans (hb3.mono HB2.out.size))
       have hz3:=HB3.out.size
       clear hb3
       go_wp2_with fail
       (with_reducible refine(H3.out _ (HB3.out.trans ((wall w3 _).mono HB3.out.size))).mono ?_)
       rintro e w4 ⟨rfl,hb4⟩
       have eG:=Lib.hid ((HB3.out.trans ((wall w3 _).mono HB3.out.size)).trans (hb4.mono (by simp;omega)))
       have q4:w4.cell? ⟨w3.heap.size,2,none⟩=some (.int .i64 y.links):=by rw[hb4.cell (p:=⟨w3.heap.size,2,none⟩) (by simp)];exact eT w3 _ _ 2
       have tK:w3.heap.size<w4.heap.size:=by have:=hb4.size;simp at this;omega
       clear hb4
       go_wp2_with fail
       (with_reducible refine(pU.out w4 eG.out).mono ?_)
       rintro e w5 ⟨rfl,rfl⟩
       go_wp2_with fail
       go_ret
       exact bA.no HH.out eG.out HQ.out
      ·have HQ:=Lib.hid (HG.out (by rw[if_neg (by simp),if_neg (by simp),if_neg h2,if_neg (by simp),hn,if_neg (by simp),if_neg h4]))
       have hd4:decide ((64:Int)≤y.links)=false:=by simpa using h4
       have hid:id≠d2:=fun e=>by have:=HY.out;rw[e,hx]at this;cases this;exact h2 hxk
       have HL:=Lib.hid (oI.of HT.out)
       have HAD:=Lib.hid (fun w4 (hb:Below w.heap.size w w4)=>qR d2 n2 id x w4 (HH.out.below hb (Nat.le_refl _)) HL.out hx hn)
       have DW:Hid (aj id (setName T d2 n2 id)=some y):=by
        show aj id (setName T d2 n2 id)=some y
        unfold setName
        rw[aS,if_neg hid]
        exact HY.out
       have Aa:Hid (oI (setName T d2 n2 id)):=HL.out.put hx hn (gZ HT.out) id
       clear h2 hn hx hxk hxm hnm h4 hid
       go_enter Tryz.func17,Tryz.ntmps17
       go_wp2_with fail
       (with_reducible refine H1.out.mono ?_)
       rintro e w1 ⟨rfl,hb1⟩
       have HB1:=Lib.hid hb1
       clear hb1
       go_wp2_with fail
       (with_reducible refine(H2.out w1 HB1.out).mono ?_)
       rintro e w2 ⟨rfl,hb2⟩
       have HB2:=Lib.hid (HB1.out.trans (hb2.mono HB1.out.size))
       clear hb2
       go_wp2_with fail
       (with_reducible refine(rE.out w2 HB2.out).mono ?_)
       rintro e w3 ⟨rfl,hb3⟩
       have HB3:=Lib.hid (HB2.out.trans (hb3.mono HB2.out.size))
       have hz3:=HB3.out.size
       clear hb3
       go_wp2_with fail
       (with_reducible refine(H3.out _ (HB3.out.trans ((wall w3 _).mono HB3.out.size))).mono ?_)
       rintro e w4 ⟨rfl,hb4⟩
       have eG:=Lib.hid ((HB3.out.trans ((wall w3 _).mono HB3.out.size)).trans (hb4.mono (by simp;omega)))
       have q4:w4.cell? ⟨w3.heap.size,2,none⟩=some (.int .i64 y.links):=by rw[hb4.cell (p:=⟨w3.heap.size,2,none⟩) (by simp)];exact eT w3 _ _ 2
       have tK:w3.heap.size<w4.heap.size:=by have:=hb4.size;simp at this;omega
       clear hb4
       go_wp2_with fail
       (with_reducible refine(pU.out w4 eG.out).mono ?_)
       rintro e w5 ⟨rfl,rfl⟩
       go_wp2_with fail
       (with_reducible refine(HAD.out w4 eG.out).mono ?_)
       rintro e w5 JW
       obtain⟨rfl,qI,yt⟩:=JW
       have Ab:=Lib.hid (pE id 1 y w5 yt Aa.out DW.out (by omega) hlk)
       have zY:Hid (bA F w4 r (setName T d2 n2 id) (.tuple #[]) (.returned (.tuple #[])) w5):=⟨rfl,qI,yt⟩
       clear qI yt
       go_wp2_with fail
       (with_reducible refine Ab.out.mono ?_)
       rintro e w6 Eb
       have vI:=Lib.hid Eb
       obtain rfl:=Eb.1
       clear Eb
       go_wp2_with fail
       go_ret
       rw[HQ.out]
       exact(dh.behind HH.out.low eG.out (zY.out.trans (HH.out.below eG.out (Nat.le_refl _)).low vI.out)).val _
    ·have HQ:=Lib.hid (HB.out e2 h3 (by rw[if_neg (by simp),if_neg (by simp),if_neg h2,if_pos h3]))
     have hne:(e2==0)=false:=by simpa using h3
     have hne2:(e2 !=0)=true:=by simpa using h3
     clear h2 h3
     go_enter Tryz.func17,Tryz.ntmps17
     go_wp2_with fail
     (with_reducible refine H1.out.mono ?_)
     rintro e w1 ⟨rfl,hb1⟩
     have HB1:=Lib.hid hb1
     clear hb1
     go_wp2_with fail
     (with_reducible refine(H2.out w1 HB1.out).mono ?_)
     rintro e w2 ⟨rfl,hb2⟩
     have HB2:=Lib.hid (HB1.out.trans (hb2.mono HB1.out.size))
     clear hb2
     go_wp2_with fail
     (with_reducible refine(rE.out w2 HB2.out).mono ?_)
     rintro e w3 ⟨rfl,hb3⟩
     have HB3:=Lib.hid (HB2.out.trans (hb3.mono HB2.out.size))
     have hz3:=HB3.out.size
     clear hb3
     go_wp2_with fail
     (with_reducible refine(H3.out _ (HB3.out.trans ((wall w3 _).mono HB3.out.size))).mono ?_)
     rintro e w4 ⟨rfl,hb4⟩
     have eG:=Lib.hid ((HB3.out.trans ((wall w3 _).mono HB3.out.size)).trans (hb4.mono (by simp;omega)))
     have q4:w4.cell? ⟨w3.heap.size,2,none⟩=some (.int .i64 y.links):=by rw[hb4.cell (p:=⟨w3.heap.size,2,none⟩) (by simp)];exact eT w3 _ _ 2
     have tK:w3.heap.size<w4.heap.size:=by have:=hb4.size;simp at this;omega
     clear hb4
     go_wp2_with fail
     go_ret
     exact bA.no HH.out eG.out HQ.out
  ·have HQ:=Lib.hid (HB.out e1 h1 (by rw[if_neg (by simp),if_pos h1]))
   have hne:(e1==0)=false:=by simpa using h1
   have hne2:(e1 !=0)=true:=by simpa using h1
   clear h1
   go_enter Tryz.func17,Tryz.ntmps17
   go_wp2_with fail
   (with_reducible refine H1.out.mono ?_)
   rintro e w1 ⟨rfl,hb1⟩
   have HB1:=Lib.hid hb1
   clear hb1
   go_wp2_with fail
   (with_reducible refine(H2.out w1 HB1.out).mono ?_)
   rintro e w2 ⟨rfl,hb2⟩
   have HB2:=Lib.hid (HB1.out.trans (hb2.mono HB1.out.size))
   clear hb2
   go_wp2_with fail
   go_ret
   exact bA.no HH.out HB2.out HQ.out
 ·have HQ:=Lib.hid (HB.out f0 h0 (if_pos h0))
  have hne:(f0==0)=false:=by simpa using h0
  have hne2:(f0 !=0)=true:=by simpa using h0
  clear h0
  go_enter Tryz.func17,Tryz.ntmps17
  go_wp2_with fail
  (with_reducible refine H1.out.mono ?_)
  rintro e w1 ⟨rfl,hb1⟩
  have HB1:=Lib.hid hb1
  clear hb1
  go_wp2_with fail
  go_ret
  exact bA.no HH.out HB1.out HQ.out
end
theorem yu {id:Int}:∀{T:aH} {x:bF},aP iC T→aj id T=some x→(aU T).filter (fun e=>decide (e.1=id))=x.names.map fun e=>(id,e.1,e.2)
 |[],x,_,hx=>by cases hx
 |y::r,x,hs,hx=>by
  obtain⟨h1,h2⟩:=List.pairwise_cons.1 hs
  rw[fF]at hx
  rw[dK,List.filter_append]
  by_cases hy:y.1=id
  ·rw[if_pos hy]at hx
   cases hx
   have e1:(jh y).filter (fun e=>decide (e.1=id))=jh y:=by
    rw[List.filter_eq_self]
    intro e he
    obtain⟨z,_,rfl⟩:=List.mem_map.1 he
    simp[hy]
   have e2:(aU r).filter (fun e=>decide (e.1=id))=[]:=by
    rw[List.filter_eq_nil_iff]
    intro e he
    obtain⟨q,hq,hk,_⟩:=yg he
    have:=h1 q hq
    simp only[decide_eq_true_eq]at this
    simp only[decide_eq_true_eq]
    omega
   rw[e1,e2,List.append_nil]
   unfold jh
   rw[hy]
  ·rw[if_neg hy]at hx
   have e1:(jh y).filter (fun e=>decide (e.1=id))=[]:=by
    rw[List.filter_eq_nil_iff]
    intro e he
    obtain⟨z,_,rfl⟩:=List.mem_map.1 he
    simp[hy]
   rw[e1,List.nil_append,yu h2 hx]
def zH (E:List iF) (id:Int) (k:Nat):List Nm:=((E.take k).filter fun e=>decide (e.1=id)).map fun e=>e.2.1
def JX (E:List iF) (id:Int) (k:Nat):List Value:=(zH E id k).map fun n=> .string (strOf n)
theorem JY {E:List iF} {id:Int} {k:Nat} {e:iF} (hx:E[k]? =some e) (he:e.1=id):zH E id (k+1)=zH E id k++[e.2.1]:=by
 obtain⟨hk,h⟩:=List.getElem?_eq_some_iff.1 hx
 unfold zH
 rw[List.take_succ_eq_append_getElem hk,List.filter_append,h,List.map_append]
 simp[he]
theorem MW {E:List iF} {id:Int} {k:Nat} {e:iF} (hx:E[k]? =some e) (he:e.1≠id):zH E id (k+1)=zH E id k:=by
 obtain⟨hk,h⟩:=List.getElem?_eq_some_iff.1 hx
 unfold zH
 rw[List.take_succ_eq_append_getElem hk,List.filter_append,h,List.map_append]
 simp[he]
theorem JZ (E:List iF) (id:Int) (k:Nat):(zH E id k).length≤k:=by
 unfold zH
 rw[List.length_map]
 exact Nat.le_trans (List.length_filter_le _ _) (List.length_take_le _ _)
theorem J2:(Tryz.prog.info? 9).map (fun i=>(i.zero,i.size,i.bytes))=some (some (.string ByteArray.empty),1,16):=by kernel_rfl
def qU (w0:World) (B:Nat) (E:List iF) (id:Int) (k:Nat) (v:Value) (wr:World):Prop:=
 wr.ownsRow B 9 1 v (zH E id k).length (JX E id k)∧Below B w0 wr∧B≤wr.heap.size
theorem Ec {w0 wr w3:World} {B:Nat} {E:List iF} {id:Int} {k m c:Nat} {nm:Nm} {v:Value} {A:Option Addr} {o:Obj} (hp:zH E id (k+1)=zH E id k++[nm]) (hm:m=(zH E id k).length) (ho3:w3.ownsRow B 9 1 (.slice A (m+1) c) (m+1) (JX E id k++[.string (strOf nm)])) (ho:wr.ownsRow B 9 1 v m (JX E id k)) (hg:(wr.alloc o).grownBy w3 v.ownBlock) (hB:Below B w0 wr) (Ja:B≤wr.heap.size):qU w0 B E id (k+1) (.slice A (m+1) c) w3:=by
 have hs:=hg.size
 have e1:(zH E id (k+1)).length=m+1:=by rw[hp,List.length_append,hm];rfl
 have e2:JX E id (k+1)=JX E id k++[.string (strOf nm)]:=by unfold JX;rw[hp,List.map_append];rfl
 unfold qU
 rw[e1,e2]
 refine⟨ho3,(hB.alloc Ja o).trans ⟨hg.os,hg.tape,hg.output,hg.size,fun b hb=>hg.block b (by simp;omega) (fun e=>by have:=fO ho b e.symm;omega)⟩,?_⟩
 rw[World.size_alloc]at hs
 omega
theorem GN {w w2 wr:World} {E:List iF} {id:Int} {k:Nat} {v:Value} {L:List Nm} (h:qU w2 w2.heap.size E id k v wr) (hL:zH E id k=L) (hb:Below w.heap.size w w2) (hs:∀l∈L,l.length≤maxLen):CG w (L,0) (.returned (.tuple #[v, .int .i64 0])) wr:=by
 obtain⟨ho,hB,Ja⟩:=h
 have hsz:=hb.size
 unfold JX at ho
 rw[hL]at ho
 obtain⟨a,c,rfl,hlc⟩:=eP ho
 obtain⟨_,hrow⟩:=ak.mW ho
 refine⟨a,c,rfl,hlc,⟨?_,fun s hs'=> ?_⟩,hb.trans (hB.mono hsz)⟩
 ·rw[List.map_map]
  exact hrow.mono fun b hb=>⟨by omega,hb.2⟩
 ·obtain⟨l,hl,rfl⟩:=List.mem_map.1 hs'
  rw[dF]
  exact hs l hl
section
variable {F:Nat→Prop} {r:Nat} {T:aH}
set_option maxRecDepth 100000 in
set_option maxHeartbeats 8000000 in
theorem Ed (id:Int) (w:World) (h:gU F w r T) (hT:dA T):Calls Tryz.prog 68 #[ptr r, .int .i64 id] w (CG w (CF T id)):=by
 have hE:=gZ hT
 have H4:=Lib.hid (jO id w h hT.totF)
 have hr0:=h.low r h.own
 unfold jy at H4
 unfold CF
 cases hx:aj id T with
 |none=>
  rw[hx]at H4
  clear h hx hT
  go_enter Tryz.func68,Tryz.ntmps68
  go_wp2_with fail
  (with_reducible refine H4.out.mono ?_)
  rintro e w1 ⟨rfl,hb1⟩
  go_wp2_with fail
  go_ret2
  exact⟨none,0,rfl,Nat.le_refl _,⟨ak.nil _ _ _,by simp⟩,hb1.trans ((wall w1 _).mono hb1.size)⟩
 |some x=>
  rw[hx]at H4
  simp only at H4
  unfold iM at H4
  by_cases hk:x.kind=2
  ·rw[hk]at H4
   simp only[if_pos hk]
   obtain⟨i0,hi,hz,hz1,hz2⟩:=info_parts J2
   have HI:=Lib.hid (And.intro hi (And.intro hz (And.intro hz1 hz2)))
   have HN:=Lib.hid (yu hT.sorted hx)
   have HH:=Lib.hid (fun w1 (hb:Below w.heap.size w w1)=>(h.below hb (Nat.le_refl _)).ent)
   have hgood:=Lib.hid ((hT.each id x hx).good)
   obtain⟨n,hn⟩:∃n,n=(aU T).length:=⟨_,rfl⟩
   generalize aU T=E at*
   rw[←hn]at hE
   have HL:=Lib.hid hn
   clear h hx hT hk hi hz hz1 hz2 hn
   go_enter Tryz.func68,Tryz.ntmps68
   go_wp2_with fail
   (with_reducible refine H4.out.mono ?_)
   rintro e w1 ⟨rfl,hb1⟩
   have HB1:=Lib.hid (hb1.trans ((wall w1 (.cells #[.int .i64 id, .int .i64 2, .int .i64 x.links, .int .i64 x.b.length, .int .u64 x.aQ, .bool x.closed] 98)).mono hb1.size))
   have hs1:=hb1.size
   clear hb1
   go_wp2_with fail
   generalize (w1.alloc (.cells #[.int .i64 id, .int .i64 2, .int .i64 x.links, .int .i64 x.b.length, .int .u64 x.aQ, .bool x.closed] 98))=w2 at*
   obtain⟨aE,cE,q2,q3,hrow,-⟩:=HH.out w2 HB1.out
   rw[←HL.out]at q2 q3 hrow
   have HR:=Lib.hid hrow
   have hs2:=HB1.out.size
   have hr2:r<w2.heap.size:=by omega
   clear hrow HH
   go_loopw [8,9] (fun v i wr=>∃k:Nat,k≤n∧i= .int .i64 k∧qU w2 w2.heap.size E id k v wr) (fun _ i _=>n-(intOf i).toNat)
   case atStart=>exact⟨0,by omega,rfl,⟨rfl, .inl ⟨rfl,rfl⟩⟩,Below.refl _ _,Nat.le_refl _⟩
   case round=>
    obtain⟨k,hk,rfl,hown,hB,Ja⟩:=hrel
    have HO:=Lib.hid hown
    have HB:=Lib.hid hB
    have c2:wr.cell? ⟨r,2,none⟩=some (.slice aE n cE):=by rw[hB.cell (p:=⟨r,2,none⟩) hr2];exact q2
    have hrr:r<wr.heap.size:=by omega
    have hll:=JZ E id k
    clear hB hown
    by_cases hlt:k<n
    ·have hx:E[k]? =some (E[k]'(by have:=HL.out;omega)):=List.getElem?_eq_getElem _
     obtain⟨q,hq⟩:∃q,q=E[k]'(by have:=HL.out;omega):=⟨_,rfl⟩
     rw[←hq]at hx
     have HX:=Lib.hid hx
     obtain⟨b,off,rfl,hF,hb,hi,hc⟩:=(HR.out.below HB.out (Nat.le_refl _)).wide gY HL.out.symm hx (by omega)
     have c0:wr.cell? ⟨b,off+k*3,none⟩=some (.int .i64 q.1):=hc 0 (by omega)
     have c1:wr.cell? ⟨b,off+k*3+1,none⟩=some (.string (strOf q.2.1)):=hc 1 (by omega)
     clear hx hq hc
     have i0:(0:Int)≤k:=by omega
     have i1:(k:Int)<n:=by omega
     by_cases hp:q.1=id
     ·have hpp:(q.1==id)=true:=by simpa using hp
      have HP:=Lib.hid (JY HX.out hp)
      obtain⟨m,hm⟩:∃m,m=(zH E id k).length:=⟨_,rfl⟩
      have HM:=Lib.hid hm
      rw[←hm]at HO hll
      clear hp hm
      go_wp2_with ((at_builtin;refine bC rfl _ _ 26 rfl w2.heap.size 9 _ (.string ByteArray.empty) 16 Tryz.underlying26 HI.out.1 HI.out.2.1 HI.out.2.2.1 HI.out.2.2.2 rfl _ m (JX E id k) rfl (HO.out.alloc _) (some ⟨wr.heap.size,0,none⟩) 1 1 [.string (strOf q.2.1)] rfl (tO _ _) (by simp[Value.oneCell']) (by unfold maxLen;omega) (by omega) (by simp;omega) ?_;intro A1 k1 w3 hown3 hgrow3 _ _))
      have HG:=Lib.hid hgrow3
      have Jh:=Lib.hid hown3
      clear hgrow3 hown3
      go_wp2
      go_roundw
      case rel=>exact⟨k+1,by omega,by go_num,Ec HP.out HM.out Jh.out HO.out HG.out HB.out Ja⟩
      case measure=>simp[intOf];omega
     ·have hpp:(q.1==id)=false:=by simpa using hp
      have HP:=Lib.hid (MW HX.out hp)
      clear hp
      go_wp2
      go_roundw
      case rel=>exact⟨k+1,by omega,by go_num,by unfold qU JX;rw[HP.out];exact⟨HO.out,HB.out,Ja⟩⟩
      case measure=>simp[intOf];omega
    ·go_wp2
     go_ret2
     have hkn:k=n:=by omega
     refine GN ⟨HO.out,HB.out,Ja⟩ ?_ HB1.out ?_
     ·unfold zH
      rw[List.take_of_length_le (by have:=HL.out;omega),HN.out,List.map_map]
      rfl
     ·intro l hl
      obtain⟨e,he,rfl⟩:=List.mem_map.1 hl
      have:=oq _ (hgood.out e he)
      unfold maxLen;omega
  ·have e1:(x.kind==2)=false:=by simpa using hk
   have e2:(x.kind !=2)=true:=by simpa using hk
   simp only[if_neg hk]
   clear h hx hT hk
   go_enter Tryz.func68,Tryz.ntmps68
   go_wp2_with fail
   (with_reducible refine H4.out.mono ?_)
   rintro e w1 ⟨rfl,hb1⟩
   go_wp2_with fail
   go_ret2
   exact⟨none,0,rfl,Nat.le_refl _,⟨ak.nil _ _ _,by simp⟩,hb1.trans ((wall w1 _).mono hb1.size)⟩
end
end Go.Proofs.YtohpcppeajijnaaGreat
