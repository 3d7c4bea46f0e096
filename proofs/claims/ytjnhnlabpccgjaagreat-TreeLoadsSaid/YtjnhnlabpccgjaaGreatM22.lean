/- The reference: Link. The reference: List. The reference: Unlink, Rmdir. The reference: Rmdir. The reference: Read. -/
import Derived.Test.YtjnhnlabpccgjaaGreatM21
namespace Go.Proofs.YtjnhnlabpccgjaaGreat
open Go.ChangeShapes Go.WideShapes Go.ChangeAt Go.RowKit
set_option linter.unusedVariables false
set_option linter.unusedSimpArgs false
theorem JH {T:aF} {p q:List Nm} {v:Int} (h:jM T p q=v) (hv:v≠0):dW T p q=(v,T):=by
 unfold dW
 rw[h,if_neg hv]
theorem Gl {T:aF} {p q:List Nm} (h:jM T p q=0):dW T p q=(0,xS T p q):=by
 unfold dW
 rw[h,if_pos rfl]
theorem eP (w:World) (cs:Array Value) (t:TypeId) (j:Nat):(w.alloc (.cells cs t)).cell? ⟨w.heap.size,j,none⟩=cs[j]? :=by
 have:=(MapKept.heap_alloc w (.cells cs t)).1
 unfold World.cell?
 simp only[this]
 rfl
section
variable {F:Nat→Prop} {r:Nat} {T:aF}
theorem bH.no {w w':World} {v:Int} (h:gW F w r T) (hb:Below w.heap.size w w') {q:Int×aF} (hq:q=(v,T)):bH F w r q.2 (.int .i64 q.1) (.returned (.int .i64 v)) w':=by
 rw[hq]
 exact dB.same h hb
set_option maxRecDepth 100000 in
set_option maxHeartbeats 8000000 in
theorem JI {S S':Nat→Prop} (a:Option Addr) (n c:Nat) (ls:List Nm) (a':Option Addr) (n' c':Nat) (ls':List Nm) (w:World) (h:gW F w r T) (hT:fB T) (hS:aP S w a n (ls.map strOf)) (hS':aP S' w a' n' (ls'.map strOf)) (hc':n'≤c') (F3:n'≤1000000):
  Calls Tryz.prog 102 #[ptr r, .slice a n c, .slice a' n' c'] w (bH F w r (dW T ls ls').2 (.int .i64 (dW T ls ls').1)):=by
 have hE:(aU T).length≤1000000:=by have:=gX hT;omega
 have H1:=Lib.hid (wR a n c ls a' n' c' ls' w hS hS')
 have H2:=Lib.hid (fun w1 (hb:Below w.heap.size w w1)=>rJ a n c ls w1 (h.below hb (Nat.le_refl _)) hT hE (hS.below hb (Nat.le_refl _)))
 have H3:=Lib.hid (fun w1 (hb:Below w.heap.size w w1)=>kP a' n' c' ls' w1 (h.below hb (Nat.le_refl _)) hT hE (hS'.below hb (Nat.le_refl _)) hc' F3)
 have H4:=Lib.hid (fun w1 (hb:Below w.heap.size w w1) id=>jP id w1 (h.below hb (Nat.le_refl _)) hT.torz)
 have H5:=Lib.hid (fun w1 (hb:Below w.heap.size w w1) d nm=>iW d nm w1 (h.below hb (Nat.le_refl _)) hE)
 have HH:=Lib.hid h
 have HT:=Lib.hid hT
 have HB:=Lib.hid (fun(v:Int) (hv:v≠0) (he:jM T ls ls'=v)=>JH he hv)
 have HG:=Lib.hid (Gl (T:=T) (p:=ls) (q:=ls'))
 have hr0:=h.low r h.own
 unfold jM at HB HG
 have AJ:=Lib.hid (eF hT.w ls 0 (dH hT.w))
 have RN:=Lib.hid (fV (p:=ls') hT)
 unfold xS at HG
 generalize iC ls ls'=f0 at H1 HB HG
 generalize aA T 0 ls=lk at H2 HB HG AJ
 generalize aC T ls'=pl at H3 HB HG RN
 obtain⟨id,e1⟩:=lk
 obtain⟨d2,n2,e2⟩:=pl
 simp only at H2 H3 HB HG AJ RN
 generalize dW T ls ls'=res at HB HG⊢
 clear h hT hS hS' hE
 by_cases h0:f0=0
 ·subst h0
  by_cases h1:e1=0
  ·subst h1
   obtain⟨y,hy⟩:=Option.isSome_iff_exists.1 (AJ.out rfl)
   have vo:=Lib.hid (fun w1 hb=>H4.out w1 hb id)
   have hnd:iD T id=iJ id y:=by unfold iD;rw[hy]
   rw[hnd]at vo
   unfold iJ at vo
   have hky:bf T id=y.kind:=aY hy
   have WW:oL T id=y.links:=by unfold oL;rw[hy]
   rw[hky,WW]at HB
   rw[hky,WW]at HG
   have HY:=Lib.hid hy
   have hlk:=(HT.out.each id y hy).links
   clear hnd hky WW hy H4
   by_cases h2:y.kind=2
   ·have hk1:(y.kind==2)=true:=by simpa using h2
    have HQ:=Lib.hid (HB.out 22 (by omega) (by rw[if_neg (by simp),if_neg (by simp),if_pos h2]))
    clear h2
    go_enter Tryz.func102,Tryz.ntmps102
    go_wp2_with fail
    (with_reducible refine H1.out.mono ?_)
    rintro e w1 ⟨rfl,hb1⟩
    have HB1:=Lib.hid hb1
    clear hb1
    go_wp2_with fail
    (with_reducible refine(H2.out w1 HB1.out).mono ?_)
    rintro e w2 ⟨rfl,hb2⟩
    have HB2:=Lib.hid (HB1.out.trans (hb2.mono HB1.out.size))
    clear hb2
    go_wp2_with fail
    (with_reducible refine(vo.out w2 HB2.out).mono ?_)
    rintro e w3 ⟨rfl,hb3⟩
    have HB3:=Lib.hid (HB2.out.trans (hb3.mono HB2.out.size))
    have hz3:=HB3.out.size
    clear hb3
    go_wp2_with fail
    go_ret
    exact bH.no HH.out (HB3.out.trans ((wall w3 _).mono HB3.out.size)) HQ.out
   ·have hk1:(y.kind==2)=false:=by simpa using h2
    by_cases h3:e2=0
    ·subst h3
     obtain⟨x,hx,hxk,hxm⟩:=RN.out rfl
     have hnm:aJ T d2=x.names:=bT hx
     rw[hnm]at HB
     rw[hnm]at HG
     have sV:=Lib.hid (fun w1 hb=>H5.out w1 hb d2 n2)
     cases hn:ah n2 x.names with
     |some j=>
      obtain⟨m,hm1,hm2⟩:=om HT.out.torz hx hn
      rw[hm1]at sV
      have m0:¬(m:Int)<0:=by omega
      have m1:(0:Int)≤m:=by omega
      have HQ:=Lib.hid (HB.out 21 (by omega) (by rw[if_neg (by simp),if_neg (by simp),if_neg h2,if_neg (by simp),hn];rfl))
      clear h2 hn hx hxk hxm hnm hm1 hm2
      go_enter Tryz.func102,Tryz.ntmps102
      go_wp2_with fail
      (with_reducible refine H1.out.mono ?_)
      rintro e w1 ⟨rfl,hb1⟩
      have HB1:=Lib.hid hb1
      clear hb1
      go_wp2_with fail
      (with_reducible refine(H2.out w1 HB1.out).mono ?_)
      rintro e w2 ⟨rfl,hb2⟩
      have HB2:=Lib.hid (HB1.out.trans (hb2.mono HB1.out.size))
      clear hb2
      go_wp2_with fail
      (with_reducible refine(vo.out w2 HB2.out).mono ?_)
      rintro e w3 ⟨rfl,hb3⟩
      have HB3:=Lib.hid (HB2.out.trans (hb3.mono HB2.out.size))
      have hz3:=HB3.out.size
      clear hb3
      go_wp2_with fail
      (with_reducible refine(H3.out _ (HB3.out.trans ((wall w3 _).mono HB3.out.size))).mono ?_)
      rintro e w4 ⟨rfl,hb4⟩
      have dS:=Lib.hid ((HB3.out.trans ((wall w3 _).mono HB3.out.size)).trans (hb4.mono (by simp;omega)))
      have q4:w4.cell? ⟨w3.heap.size,2,none⟩=some (.int .i64 y.links):=by rw[hb4.cell (p:=⟨w3.heap.size,2,none⟩) (by simp)];exact eP w3 _ _ 2
      have za:w3.heap.size<w4.heap.size:=by have:=hb4.size;simp at this;omega
      clear hb4
      go_wp2_with fail
      (with_reducible refine(sV.out w4 dS.out).mono ?_)
      rintro e w5 ⟨rfl,rfl⟩
      go_wp2_with fail
      go_ret
      exact bH.no HH.out dS.out HQ.out
     |none=>
      rw[qM HT.out.sorted hx hn]at sV
      by_cases h4:64≤y.links
      ·have HQ:=Lib.hid (HB.out 4 (by omega) (by rw[if_neg (by simp),if_neg (by simp),if_neg h2,if_neg (by simp),hn,if_neg (by simp),if_pos h4]))
       have hd4:decide ((64:Int)≤y.links)=true:=by simpa using h4
       clear h2 hn hx hxk hxm hnm
       go_enter Tryz.func102,Tryz.ntmps102
       go_wp2_with fail
       (with_reducible refine H1.out.mono ?_)
       rintro e w1 ⟨rfl,hb1⟩
       have HB1:=Lib.hid hb1
       clear hb1
       go_wp2_with fail
       (with_reducible refine(H2.out w1 HB1.out).mono ?_)
       rintro e w2 ⟨rfl,hb2⟩
       have HB2:=Lib.hid (HB1.out.trans (hb2.mono HB1.out.size))
       clear hb2
       go_wp2_with fail
       (with_reducible refine(vo.out w2 HB2.out).mono ?_)
       rintro e w3 ⟨rfl,hb3⟩
       have HB3:=Lib.hid (HB2.out.trans (hb3.mono HB2.out.size))
       have hz3:=HB3.out.size
       clear hb3
       go_wp2_with fail
       (with_reducible refine(H3.out _ (HB3.out.trans ((wall w3 _).mono HB3.out.size))).mono ?_)
       rintro e w4 ⟨rfl,hb4⟩
       have dS:=Lib.hid ((HB3.out.trans ((wall w3 _).mono HB3.out.size)).trans (hb4.mono (by simp;omega)))
       have q4:w4.cell? ⟨w3.heap.size,2,none⟩=some (.int .i64 y.links):=by rw[hb4.cell (p:=⟨w3.heap.size,2,none⟩) (by simp)];exact eP w3 _ _ 2
       have za:w3.heap.size<w4.heap.size:=by have:=hb4.size;simp at this;omega
       clear hb4
       go_wp2_with fail
       (with_reducible refine(sV.out w4 dS.out).mono ?_)
       rintro e w5 ⟨rfl,rfl⟩
       go_wp2_with fail
       go_ret
       exact bH.no HH.out dS.out HQ.out
      ·have HQ:=Lib.hid (HG.out (by rw[if_neg (by simp),if_neg (by simp),if_neg h2,if_neg (by simp),hn,if_neg (by simp),if_neg h4]))
       have hd4:decide ((64:Int)≤y.links)=false:=by simpa using h4
       have hid:id≠d2:=fun e=>by have:=HY.out;rw[e,hx]at this;cases this;exact h2 hxk
       have HL:=Lib.hid (qN.of HT.out)
       have HAD:=Lib.hid (fun w4 (hb:Below w.heap.size w w4)=>xH d2 n2 id x w4 (HH.out.below hb (Nat.le_refl _)) HL.out hx hn)
       have JJ:Hid (ah id (setName T d2 n2 id)=some y):=by
        show ah id (setName T d2 n2 id)=some y
        unfold setName
        rw[aS,if_neg hid]
        exact HY.out
       have Bn:Hid (qN (setName T d2 n2 id)):=HL.out.put hx hn (gX HT.out) id
       clear h2 hn hx hxk hxm hnm h4 hid
       go_enter Tryz.func102,Tryz.ntmps102
       go_wp2_with fail
       (with_reducible refine H1.out.mono ?_)
       rintro e w1 ⟨rfl,hb1⟩
       have HB1:=Lib.hid hb1
       clear hb1
       go_wp2_with fail
       (with_reducible refine(H2.out w1 HB1.out).mono ?_)
       rintro e w2 ⟨rfl,hb2⟩
       have HB2:=Lib.hid (HB1.out.trans (hb2.mono HB1.out.size))
       clear hb2
       go_wp2_with fail
       (with_reducible refine(vo.out w2 HB2.out).mono ?_)
       rintro e w3 ⟨rfl,hb3⟩
       have HB3:=Lib.hid (HB2.out.trans (hb3.mono HB2.out.size))
       have hz3:=HB3.out.size
       clear hb3
       go_wp2_with fail
       (with_reducible refine(H3.out _ (HB3.out.trans ((wall w3 _).mono HB3.out.size))).mono ?_)
       rintro e w4 ⟨rfl,hb4⟩
       have dS:=Lib.hid ((HB3.out.trans ((wall w3 _).mono HB3.out.size)).trans (hb4.mono (by simp;omega)))
       have q4:w4.cell? ⟨w3.heap.size,2,none⟩=some (.int .i64 y.links):=by rw[hb4.cell (p:=⟨w3.heap.size,2,none⟩) (by simp)];exact eP w3 _ _ 2
       have za:w3.heap.size<w4.heap.size:=by have:=hb4.size;simp at this;omega
       clear hb4
       go_wp2_with fail
       (with_reducible refine(sV.out w4 dS.out).mono ?_)
       rintro e w5 ⟨rfl,rfl⟩
       go_wp2_with fail
       (with_reducible refine(HAD.out w4 dS.out).mono ?_)
       rintro e w5 O5
       obtain⟨rfl,tJ,Cz⟩:=O5
       have E_:=Lib.hid (rO id 1 y w5 Cz Bn.out JJ.out (by omega) hlk)
       have Dm:Hid (bH F w4 r (setName T d2 n2 id) (.tuple #[]) (.returned (.tuple #[])) w5):=⟨rfl,tJ,Cz⟩
       clear tJ Cz
       go_wp2_with fail
       (with_reducible refine E_.out.mono ?_)
       rintro e w6 mo
       have jS:=Lib.hid mo
       obtain rfl:=mo.1
       clear mo
       go_wp2_with fail
       go_ret
       rw[HQ.out]
       exact(dB.behind HH.out.low dS.out (Dm.out.trans (HH.out.below dS.out (Nat.le_refl _)).low jS.out)).val _
    ·have HQ:=Lib.hid (HB.out e2 h3 (by rw[if_neg (by simp),if_neg (by simp),if_neg h2,if_pos h3]))
     have hne:(e2==0)=false:=by simpa using h3
     have hne2:(e2 !=0)=true:=by simpa using h3
     clear h2 h3
     go_enter Tryz.func102,Tryz.ntmps102
     go_wp2_with fail
     (with_reducible refine H1.out.mono ?_)
     rintro e w1 ⟨rfl,hb1⟩
     have HB1:=Lib.hid hb1
     clear hb1
     go_wp2_with fail
     (with_reducible refine(H2.out w1 HB1.out).mono ?_)
     rintro e w2 ⟨rfl,hb2⟩
     have HB2:=Lib.hid (HB1.out.trans (hb2.mono HB1.out.size))
     clear hb2
     go_wp2_with fail
     (with_reducible refine(vo.out w2 HB2.out).mono ?_)
     rintro e w3 ⟨rfl,hb3⟩
     have HB3:=Lib.hid (HB2.out.trans (hb3.mono HB2.out.size))
     have hz3:=HB3.out.size
     clear hb3
     go_wp2_with fail
     (with_reducible refine(H3.out _ (HB3.out.trans ((wall w3 _).mono HB3.out.size))).mono ?_)
     rintro e w4 ⟨rfl,hb4⟩
     have dS:=Lib.hid ((HB3.out.trans ((wall w3 _).mono HB3.out.size)).trans (hb4.mono (by simp;omega)))
     have q4:w4.cell? ⟨w3.heap.size,2,none⟩=some (.int .i64 y.links):=by rw[hb4.cell (p:=⟨w3.heap.size,2,none⟩) (by simp)];exact eP w3 _ _ 2
     have za:w3.heap.size<w4.heap.size:=by have:=hb4.size;simp at this;omega
     clear hb4
     go_wp2_with fail
     go_ret
     exact bH.no HH.out dS.out HQ.out
  ·have HQ:=Lib.hid (HB.out e1 h1 (by rw[if_neg (by simp),if_pos h1]))
   have hne:(e1==0)=false:=by simpa using h1
   have hne2:(e1 !=0)=true:=by simpa using h1
   clear h1
   go_enter Tryz.func102,Tryz.ntmps102
   go_wp2_with fail
   (with_reducible refine H1.out.mono ?_)
   rintro e w1 ⟨rfl,hb1⟩
   have HB1:=Lib.hid hb1
   clear hb1
   go_wp2_with fail
   (with_reducible refine(H2.out w1 HB1.out).mono ?_)
   rintro e w2 ⟨rfl,hb2⟩
   have HB2:=Lib.hid (HB1.out.trans (hb2.mono HB1.out.size))
   clear hb2
   go_wp2_with fail
   go_ret
   exact bH.no HH.out HB2.out HQ.out
 ·have HQ:=Lib.hid (HB.out f0 h0 (if_pos h0))
  have hne:(f0==0)=false:=by simpa using h0
  have hne2:(f0 !=0)=true:=by simpa using h0
  clear h0
  go_enter Tryz.func102,Tryz.ntmps102
  go_wp2_with fail
  (with_reducible refine H1.out.mono ?_)
  rintro e w1 ⟨rfl,hb1⟩
  have HB1:=Lib.hid hb1
  clear hb1
  go_wp2_with fail
  go_ret
  exact bH.no HH.out HB1.out HQ.out
end
theorem CB {id:Int}:∀{T:aF} {x:bA},aI gH T→ah id T=some x→(aU T).filter (fun e=>decide (e.1=id))=x.names.map fun e=>(id,e.1,e.2)
 |[],x,_,hx=>by cases hx
 |y::r,x,hs,hx=>by
  obtain⟨h1,h2⟩:=List.pairwise_cons.1 hs
  rw[eU]at hx
  rw[dK,List.filter_append]
  by_cases hy:y.1=id
  ·rw[if_pos hy]at hx
   cases hx
   have e1:(jK y).filter (fun e=>decide (e.1=id))=jK y:=by
    rw[List.filter_eq_self]
    intro e he
    obtain⟨z,_,rfl⟩:=List.mem_map.1 he
    simp[hy]
   have e2:(aU r).filter (fun e=>decide (e.1=id))=[]:=by
    rw[List.filter_eq_nil_iff]
    intro e he
    obtain⟨q,hq,hk,_⟩:=Cx he
    have:=h1 q hq
    simp only[decide_eq_true_eq]at this
    simp only[decide_eq_true_eq]
    omega
   rw[e1,e2,List.append_nil]
   unfold jK
   rw[hy]
  ·rw[if_neg hy]at hx
   have e1:(jK y).filter (fun e=>decide (e.1=id))=[]:=by
    rw[List.filter_eq_nil_iff]
    intro e he
    obtain⟨z,_,rfl⟩:=List.mem_map.1 he
    simp[hy]
   rw[e1,List.nil_append,CB h2 hx]
def Em (E:List iM) (id:Int) (k:Nat):List Nm:=((E.take k).filter fun e=>decide (e.1=id)).map fun e=>e.2.1
def O6 (E:List iM) (id:Int) (k:Nat):List Value:=(Em E id k).map fun n=> .string (strOf n)
theorem O7 {E:List iM} {id:Int} {k:Nat} {e:iM} (hx:E[k]? =some e) (he:e.1=id):Em E id (k+1)=Em E id k++[e.2.1]:=by
 obtain⟨hk,h⟩:=List.getElem?_eq_some_iff.1 hx
 unfold Em
 rw[List.take_succ_eq_append_getElem hk,List.filter_append,h,List.map_append]
 simp[he]
theorem RO {E:List iM} {id:Int} {k:Nat} {e:iM} (hx:E[k]? =some e) (he:e.1≠id):Em E id (k+1)=Em E id k:=by
 obtain⟨hk,h⟩:=List.getElem?_eq_some_iff.1 hx
 unfold Em
 rw[List.take_succ_eq_append_getElem hk,List.filter_append,h,List.map_append]
 simp[he]
theorem O8 (E:List iM) (id:Int) (k:Nat):(Em E id k).length≤k:=by
 unfold Em
 rw[List.length_map]
 exact Nat.le_trans (List.length_filter_le _ _) (List.length_take_le _ _)
theorem O9:(Tryz.prog.info? 9).map (fun i=>(i.zero,i.size,i.bytes))=some (some (.string ByteArray.empty),1,16):=by kernel_rfl
def uP (w0:World) (B:Nat) (E:List iM) (id:Int) (k:Nat) (v:Value) (wr:World):Prop:=
 wr.ownsRow B 9 1 v (Em E id k).length (O6 E id k)∧Below B w0 wr∧B≤wr.heap.size
theorem JK {w0 wr w3:World} {B:Nat} {E:List iM} {id:Int} {k m c:Nat} {nm:Nm} {v:Value} {A:Option Addr} {o:Obj} (hp:Em E id (k+1)=Em E id k++[nm]) (hm:m=(Em E id k).length) (ho3:w3.ownsRow B 9 1 (.slice A (m+1) c) (m+1) (O6 E id k++[.string (strOf nm)])) (ho:wr.ownsRow B 9 1 v m (O6 E id k)) (hg:(wr.alloc o).grownBy w3 v.ownBlock) (hB:Below B w0 wr) (Ii:B≤wr.heap.size):uP w0 B E id (k+1) (.slice A (m+1) c) w3:=by
 have hs:=hg.size
 have e1:(Em E id (k+1)).length=m+1:=by rw[hp,List.length_append,hm];rfl
 have e2:O6 E id (k+1)=O6 E id k++[.string (strOf nm)]:=by unfold O6;rw[hp,List.map_append];rfl
 unfold uP
 rw[e1,e2]
 refine⟨ho3,(hB.alloc Ii o).trans ⟨hg.os,hg.tape,hg.output,hg.size,fun b hb=>hg.block b (by simp;omega) (fun e=>by have:=eu ho b e.symm;omega)⟩,?_⟩
 rw[World.size_alloc]at hs
 omega
theorem MG {w w2 wr:World} {E:List iM} {id:Int} {k:Nat} {v:Value} {L:List Nm} (h:uP w2 w2.heap.size E id k v wr) (hL:Em E id k=L) (hb:Below w.heap.size w w2) (hs:∀l∈L,l.length≤maxLen):xC w (L,0) (.returned (.tuple #[v, .int .i64 0])) wr:=by
 obtain⟨ho,hB,Ii⟩:=h
 have hsz:=hb.size
 unfold O6 at ho
 rw[hL]at ho
 obtain⟨a,c,rfl,hlc⟩:=gU ho
 obtain⟨_,hrow⟩:=aj.jI ho
 refine⟨a,c,rfl,hlc,⟨?_,fun s hs'=> ?_⟩,hb.trans (hB.mono hsz)⟩
 ·rw[List.map_map]
  exact hrow.mono fun b hb=>⟨by omega,hb.2⟩
 ·obtain⟨l,hl,rfl⟩:=List.mem_map.1 hs'
  rw[eT]
  exact hs l hl
section
variable {F:Nat→Prop} {r:Nat} {T:aF}
set_option maxRecDepth 100000 in
set_option maxHeartbeats 8000000 in
theorem Bo (id:Int) (w:World) (h:gW F w r T) (hT:fB T):Calls Tryz.prog 114 #[ptr r, .int .i64 id] w (xC w (oh T id)):=by
 have hE:=gX hT
 have H4:=Lib.hid (jP id w h hT.torz)
 have hr0:=h.low r h.own
 unfold iD at H4
 unfold oh
 cases hx:ah id T with
 |none=>
  rw[hx]at H4
  clear h hx hT
  go_enter Tryz.func114,Tryz.ntmps114
  go_wp2_with fail
  (with_reducible refine H4.out.mono ?_)
  rintro e w1 ⟨rfl,hb1⟩
  go_wp2_with fail
  go_ret2
  exact⟨none,0,rfl,Nat.le_refl _,⟨aj.nil _ _ _,by simp⟩,hb1.trans ((wall w1 _).mono hb1.size)⟩
 |some x=>
  rw[hx]at H4
  simp only at H4
  unfold iJ at H4
  by_cases hk:x.kind=2
  ·rw[hk]at H4
   simp only[if_pos hk]
   obtain⟨i0,hi,hz,hz1,hz2⟩:=info_parts O9
   have HI:=Lib.hid (And.intro hi (And.intro hz (And.intro hz1 hz2)))
   have HN:=Lib.hid (CB hT.sorted hx)
   have HH:=Lib.hid (fun w1 (hb:Below w.heap.size w w1)=>(h.below hb (Nat.le_refl _)).ent)
   have hgood:=Lib.hid ((hT.each id x hx).good)
   obtain⟨n,hn⟩:∃n,n=(aU T).length:=⟨_,rfl⟩
   generalize aU T=E at*
   rw[←hn]at hE
   have HL:=Lib.hid hn
   clear h hx hT hk hi hz hz1 hz2 hn
   go_enter Tryz.func114,Tryz.ntmps114
   go_wp2_with fail
   (with_reducible refine H4.out.mono ?_)
   rintro e w1 ⟨rfl,hb1⟩
   have HB1:=Lib.hid (hb1.trans ((wall w1 (.cells #[.int .i64 id, .int .i64 2, .int .i64 x.links, .int .i64 x.b.length, .int .u64 x.aO, .bool x.closed] 101)).mono hb1.size))
   have hs1:=hb1.size
   clear hb1
   go_wp2_with fail
   generalize (w1.alloc (.cells #[.int .i64 id, .int .i64 2, .int .i64 x.links, .int .i64 x.b.length, .int .u64 x.aO, .bool x.closed] 101))=w2 at*
   obtain⟨aE,cE,q2,q3,hrow,-⟩:=HH.out w2 HB1.out
   rw[←HL.out]at q2 q3 hrow
   have HR:=Lib.hid hrow
   have hs2:=HB1.out.size
   have hr2:r<w2.heap.size:=by omega
   clear hrow HH
   go_loopw [8,9] (fun v i wr=>∃k:Nat,k≤n∧i= .int .i64 k∧uP w2 w2.heap.size E id k v wr) (fun _ i _=>n-(intOf i).toNat)
   case atStart=>exact⟨0,by omega,rfl,⟨rfl, .inl ⟨rfl,rfl⟩⟩,Below.refl _ _,Nat.le_refl _⟩
   case round=>
    obtain⟨k,hk,rfl,hown,hB,Ii⟩:=hrel
    have HO:=Lib.hid hown
    have HB:=Lib.hid hB
    have c2:wr.cell? ⟨r,2,none⟩=some (.slice aE n cE):=by rw[hB.cell (p:=⟨r,2,none⟩) hr2];exact q2
    have hrr:r<wr.heap.size:=by omega
    have hll:=O8 E id k
    clear hB hown
    by_cases hlt:k<n
    ·have hx:E[k]? =some (E[k]'(by have:=HL.out;omega)):=List.getElem?_eq_getElem _
     obtain⟨q,hq⟩:∃q,q=E[k]'(by have:=HL.out;omega):=⟨_,rfl⟩
     rw[←hq]at hx
     have HX:=Lib.hid hx
     obtain⟨b,off,rfl,hF,hb,hi,hc⟩:=(HR.out.below HB.out (Nat.le_refl _)).wide iw HL.out.symm hx (by omega)
     have c0:wr.cell? ⟨b,off+k*3,none⟩=some (.int .i64 q.1):=hc 0 (by omega)
     have c1:wr.cell? ⟨b,off+k*3+1,none⟩=some (.string (strOf q.2.1)):=hc 1 (by omega)
     clear hx hq hc
     have i0:(0:Int)≤k:=by omega
     have i1:(k:Int)<n:=by omega
     by_cases hp:q.1=id
     ·have hpp:(q.1==id)=true:=by simpa using hp
      have HP:=Lib.hid (O7 HX.out hp)
      obtain⟨m,hm⟩:∃m,m=(Em E id k).length:=⟨_,rfl⟩
      have HM:=Lib.hid hm
      rw[←hm]at HO hll
      clear hp hm
      go_wp2_with ((at_builtin;refine aW rfl _ _ 61 rfl w2.heap.size 9 _ (.string ByteArray.empty) 16 Tryz.underlying61 HI.out.1 HI.out.2.1 HI.out.2.2.1 HI.out.2.2.2 rfl _ m (O6 E id k) rfl (HO.out.alloc _) (some ⟨wr.heap.size,0,none⟩) 1 1 [.string (strOf q.2.1)] rfl (rF _ _) (by simp[Value.oneCell']) (by unfold maxLen;omega) (by omega) (by simp;omega) ?_;intro A1 k1 w3 hown3 hgrow3 _ _))
      have HG:=Lib.hid hgrow3
      have HO3:=Lib.hid hown3
      clear hgrow3 hown3
      go_wp2
      go_roundw
      case rel=>exact⟨k+1,by omega,by go_num,JK HP.out HM.out HO3.out HO.out HG.out HB.out Ii⟩
      case measure=>simp[intOf];omega
     ·have hpp:(q.1==id)=false:=by simpa using hp
      have HP:=Lib.hid (RO HX.out hp)
      clear hp
      go_wp2
      go_roundw
      case rel=>exact⟨k+1,by omega,by go_num,by unfold uP O6;rw[HP.out];exact⟨HO.out,HB.out,Ii⟩⟩
      case measure=>simp[intOf];omega
    ·go_wp2
     go_ret2
     have hkn:k=n:=by omega
     refine MG ⟨HO.out,HB.out,Ii⟩ ?_ HB1.out ?_
     ·unfold Em
      rw[List.take_of_length_le (by have:=HL.out;omega),HN.out,List.map_map]
      rfl
     ·intro l hl
      obtain⟨e,he,rfl⟩:=List.mem_map.1 hl
      have:=nT _ (hgood.out e he)
      unfold maxLen;omega
  ·have e1:(x.kind==2)=false:=by simpa using hk
   have e2:(x.kind !=2)=true:=by simpa using hk
   simp only[if_neg hk]
   clear h hx hT hk
   go_enter Tryz.func114,Tryz.ntmps114
   go_wp2_with fail
   (with_reducible refine H4.out.mono ?_)
   rintro e w1 ⟨rfl,hb1⟩
   go_wp2_with fail
   go_ret2
   exact⟨none,0,rfl,Nat.le_refl _,⟨aj.nil _ _ _,by simp⟩,hb1.trans ((wall w1 _).mono hb1.size)⟩
end
theorem Keeps.cell_ {r b:Nat} {w w':World} (h:Keeps (fun x=>x=r) w w') (hb:b<w.heap.size) (hn:b≠r) (j:Nat):w'.cell? ⟨b,j,none⟩=w.cell? ⟨b,j,none⟩:=World.cell?_of_block (w:=w) (w':=w') (a:=⟨b,j,none⟩) (h.block b hb hn)
theorem ze {T:aF} {p:List Nm} (h:(dY T p).2=0):dY T p=aA T 0 p:=by
 unfold dY at h⊢
 by_cases h1:bK p≠0
 ·rw[if_pos h1]at h;exact absurd h h1
 ·rw[if_neg h1]
section
variable {F:Nat→Prop} {r:Nat} {T:aF}
set_option maxRecDepth 100000 in
set_option maxHeartbeats 8000000 in
theorem En {S:Nat→Prop} (a:Option Addr) (n c:Nat) (ls:List Nm) (w:World) (h:gW F w r T) (hT:fB T) (hS:aP S w a n (ls.map strOf)) (hc:n≤c) (oP:n≤1000000):
  Calls Tryz.prog 34 #[ptr r, .slice a n c] w (bH F w r (b_ T ls).2 (.int .i64 (b_ T ls).1)):=by
 have hE:(aU T).length≤1000000:=by have:=gX hT;omega
 have H1:=Lib.hid (vT a n c ls w h hT hE hS)
 have H3:=Lib.hid (fun w1 (hb:Below w.heap.size w w1)=>kP a n c ls w1 (h.below hb (Nat.le_refl _)) hT hE (hS.below hb (Nat.le_refl _)) hc oP)
 have H4:=Lib.hid (fun w1 (hb:Below w.heap.size w w1) id=>jP id w1 (h.below hb (Nat.le_refl _)) hT.torz)
 have H5:=Lib.hid (fun w1 (hb:Below w.heap.size w w1) d nm=>iW d nm w1 (h.below hb (Nat.le_refl _)) hE)
 have HH:=Lib.hid h
 have HT:=Lib.hid hT
 have hr0:=h.low r h.own
 by_cases h1:(dY T ls).2=0
 ·have zf:=ze h1
  rw[zf]at h1 H1
  have hl2:aA T 0 ls=((aA T 0 ls).1,0):=Prod.ext rfl h1
  obtain⟨y,hy⟩:=Option.isSome_iff_exists.1 (eF hT.w ls 0 (dH hT.w) h1)
  have hue:gQ T ls=if y.kind=2 then 22 else 0:=by
   unfold gQ
   rw[zf,if_neg (by rw[h1];simp),aY hy]
  obtain⟨id,hid⟩:∃id,id=(aA T 0 ls).1:=⟨_,rfl⟩
  rw[←hid]at hl2 hy
  rw[hl2]at H1
  simp only at H1
  have vo:=Lib.hid (fun w1 hb=>H4.out w1 hb id)
  have hnd:iD T id=iJ id y:=by unfold iD;rw[hy]
  rw[hnd]at vo
  unfold iJ at vo
  have hlk:=(hT.each id y hy).links
  by_cases h2:y.kind=2
  ·have hk1:(y.kind==2)=true:=by simpa using h2
   have HQ:Hid (b_ T ls=(22,T)):=by
    show b_ T ls=(22,T)
    unfold b_
    rw[hue,if_pos h2]
    rfl
   clear h hT hS hE H4 zf h1 hl2 hue hid hnd hy h2
   go_enter Tryz.func34,Tryz.ntmps34
   go_wp2_with fail
   (with_reducible refine H1.out.mono ?_)
   rintro e w1 ⟨rfl,hb1⟩
   have HB1:=Lib.hid hb1
   clear hb1
   go_wp2_with fail
   (with_reducible refine(vo.out w1 HB1.out).mono ?_)
   rintro e w3 ⟨rfl,hb3⟩
   have HB3:=Lib.hid (HB1.out.trans (hb3.mono HB1.out.size))
   have hz3:=HB3.out.size
   clear hb3
   go_wp2_with fail
   go_ret
   exact bH.no HH.out (HB3.out.trans ((wall w3 _).mono HB3.out.size)) HQ.out
  ·have hk1:(y.kind==2)=false:=by simpa using h2
   have hls:ls≠[]:=fun e=>by
    rw[e]at hl2
    simp only[aA,Prod.mk.injEq,and_true]at hl2
    obtain⟨z,hz,Ub⟩:=eX hT.root
    rw[←hl2,hz]at hy
    cases hy
    exact h2 Ub
   obtain⟨d,x,n1,hp1,hp2,hx,hxk,hxn,hm,-⟩:=bQ hl2 hls
   rw[hp1]at H3
   simp only at H3
   have MH:id≠d:=fun e=>by rw[e,hx]at hy;cases hy;exact h2 hxk
   have Bn:=Lib.hid ((qN.of hT).cut d n1)
   obtain⟨k,hk,-⟩:=uO (qN.of hT) hx hxn
   have sV:=Lib.hid (fun w1 hb=>H5.out w1 hb d n1)
   rw[hk]at sV
   have MI:Hid (∀w4,Below w.heap.size w w4→Calls Tryz.prog 85 #[ptr r, .int .i64 k] w4 (bH F w4 r (ak T d n1) (.tuple #[]))):=fun w4 hb=>by
    obtain⟨k',hk',hc'⟩:=xG d n1 id x w4 (h.below hb (Nat.le_refl _)) (qN.of hT) hx hxn
    rw[hk]at hk'
    have:k=k':=by omega
    rw[this]
    exact hc'
   have JJ:Hid (ah id (ak T d n1)=some y):=by
    show ah id (ak T d n1)=some y
    unfold ak
    rw[aS,if_neg MH]
    exact hy
   have RP:Hid (ah id (aX id (fun x:bA=>{x with links:=x.links+ -1}) (ak T d n1))=some {y with links:=y.links+ -1}):=by
    show ah id (aX id (fun x:bA=>{x with links:=x.links+ -1}) (ak T d n1))=some {y with links:=y.links+ -1}
    rw[aS,if_pos rfl,JJ.out]
    rfl
   have HL2:Hid (qN (aX id (fun x:bA=>{x with links:=x.links+ -1}) (ak T d n1))):=Bn.out.aX id (fun _=>by exact rfl)
   have hnil:y.names=[]:=(hT.each id y hy).file ((hT.each id y hy).kind.resolve_right h2)
   have HQ:Hid (b_ T ls=(0,if y.links=1∧y.closed=true then bB id (aX id (fun x:bA=>{x with links:=x.links+ -1}) (ak T d n1))else aX id (fun x:bA=>{x with links:=x.links+ -1}) (ak T d n1))):=by
    show b_ T ls=_
    unfold b_
    rw[hue,if_neg h2]
    refine Prod.ext rfl ?_
    show nP T ls=_
    unfold nP eG
    rw[hp1,←hid]
    have e0:(fun x:bA=>{x with links:=x.links-1})=fun x:bA=>{x with links:=x.links+ -1}:=rfl
    simp only[e0]
    rw[RP.out]
    simp only
    by_cases hq:y.links=1∧y.closed=true
    ·rw[if_pos hq,if_pos ⟨by omega,hq.2⟩]
    ·rw[if_neg hq,if_neg (fun h=>hq ⟨by omega,h.2⟩)]
   clear h hT hS hE H4 H5 zf h1 hl2 hue hid hnd hy h2 hls hp1 hp2 hx hxk hxn hm hk MH
   by_cases h3:y.links=1
   ·have e1:(y.links==1)=true:=by simpa using h3
    cases h4:y.closed with
    |true=>
     rw[if_pos ⟨h3,h4⟩]at HQ
     rw[h4]at vo
     have hcl:=Lib.hid h4
     clear h3 h4
     go_enter Tryz.func34,Tryz.ntmps34
     go_wp2_with fail
     (with_reducible refine H1.out.mono ?_)
     rintro e w1 ⟨rfl,hb1⟩
     have HB1:=Lib.hid hb1
     clear hb1
     go_wp2_with fail
     (with_reducible refine(vo.out w1 HB1.out).mono ?_)
     rintro e w3 ⟨rfl,hb3⟩
     have HB3:=Lib.hid (HB1.out.trans (hb3.mono HB1.out.size))
     have hz3:=HB3.out.size
     clear hb3
     go_wp2_with fail
     (with_reducible refine(H3.out _ (HB3.out.trans ((wall w3 _).mono HB3.out.size))).mono ?_)
     rintro e w4 ⟨rfl,hb4⟩
     have dS:=Lib.hid ((HB3.out.trans ((wall w3 _).mono HB3.out.size)).trans (hb4.mono (by simp;omega)))
     have q4:w4.cell? ⟨w3.heap.size,2,none⟩=some (.int .i64 y.links):=by rw[hb4.cell (p:=⟨w3.heap.size,2,none⟩) (by simp)];exact eP w3 _ _ 2
     have q5:w4.cell? ⟨w3.heap.size,5,none⟩=some (.bool true):=by rw[hb4.cell (p:=⟨w3.heap.size,5,none⟩) (by simp)];exact(eP w3 _ _ 5)
     have za:w3.heap.size<w4.heap.size:=by have:=hb4.size;simp at this;omega
     obtain⟨qb,Il⟩:∃qb,qb=w3.heap.size:=⟨_,rfl⟩
     have hqr:qb≠r:=by omega
     rw[←Il]at q4 q5 za⊢
     have HZ:=Lib.hid Il
     clear hb4 Il hz3
     go_wp2_with fail
     (with_reducible refine(sV.out w4 dS.out).mono ?_)
     rintro e w5 ⟨rfl,rfl⟩
     go_wp2_with fail
     (with_reducible refine(MI.out w4 dS.out).mono ?_)
     rintro e w5 O5
     obtain⟨rfl,tJ,Cz⟩:=O5
     have QF:w5.cell? ⟨qb,2,none⟩=some (.int .i64 y.links):=(tJ.cell_ za hqr 2).trans q4
     have QG:w5.cell? ⟨qb,5,none⟩=some (.bool true):=(tJ.cell_ za hqr 5).trans q5
     have Fa:qb<w5.heap.size:=by have:=tJ.size;omega
     have E_:=Lib.hid (rO id (-1) y w5 Cz Bn.out JJ.out (by omega) hlk)
     have Dm:Hid (bH F w4 r (ak T d n1) (.tuple #[]) (.returned (.tuple #[])) w5):=⟨rfl,tJ,Cz⟩
     clear tJ Cz q4 q5
     go_wp2_with fail
     (with_reducible refine E_.out.mono ?_)
     rintro e w6 mo
     obtain⟨rfl,Bp,O_⟩:=mo
     have q4:w6.cell? ⟨qb,2,none⟩=some (.int .i64 y.links):=(Bp.cell_ Fa hqr 2).trans QF
     have q5:w6.cell? ⟨qb,5,none⟩=some (.bool true):=(Bp.cell_ Fa hqr 5).trans QG
     have Zh:qb<w6.heap.size:=by have:=Bp.size;omega
     have CX:=Lib.hid (qO id _ w6 O_ HL2.out.sorted HL2.out.len RP.out hnil)
     have jS:Hid (bH (Grow F w4 w5) w5 r (aX id (fun x=>{x with links:=x.links+ -1}) (ak T d n1)) (.tuple #[]) (.returned (.tuple #[])) w6):=⟨rfl,Bp,O_⟩
     clear Bp O_ QF QG
     go_wp2_with fail
     (with_reducible refine CX.out.mono ?_)
     rintro e w7 RQ
     have Rz:=Lib.hid RQ
     obtain rfl:=RQ.1
     clear RQ
     go_wp2_with fail
     go_ret
     rw[HQ.out]
     have ht56:=Dm.out.trans (HH.out.below dS.out (Nat.le_refl _)).low jS.out
     exact(dB.behind HH.out.low dS.out (Dm.out.trans (HH.out.below dS.out (Nat.le_refl _)).low (jS.out.trans Dm.out.2.2.low Rz.out))).val _
    |false=>
     rw[if_neg (by rw[h4];simp)]at HQ
     rw[h4]at vo
     clear h3 h4
     go_enter Tryz.func34,Tryz.ntmps34
     go_wp2_with fail
     (with_reducible refine H1.out.mono ?_)
     rintro e w1 ⟨rfl,hb1⟩
     have HB1:=Lib.hid hb1
     clear hb1
     go_wp2_with fail
     (with_reducible refine(vo.out w1 HB1.out).mono ?_)
     rintro e w3 ⟨rfl,hb3⟩
     have HB3:=Lib.hid (HB1.out.trans (hb3.mono HB1.out.size))
     have hz3:=HB3.out.size
     clear hb3
     go_wp2_with fail
     (with_reducible refine(H3.out _ (HB3.out.trans ((wall w3 _).mono HB3.out.size))).mono ?_)
     rintro e w4 ⟨rfl,hb4⟩
     have dS:=Lib.hid ((HB3.out.trans ((wall w3 _).mono HB3.out.size)).trans (hb4.mono (by simp;omega)))
     have q4:w4.cell? ⟨w3.heap.size,2,none⟩=some (.int .i64 y.links):=by rw[hb4.cell (p:=⟨w3.heap.size,2,none⟩) (by simp)];exact eP w3 _ _ 2
     have q5:w4.cell? ⟨w3.heap.size,5,none⟩=some (.bool false):=by rw[hb4.cell (p:=⟨w3.heap.size,5,none⟩) (by simp)];exact eP w3 _ _ 5
     have za:w3.heap.size<w4.heap.size:=by have:=hb4.size;simp at this;omega
     obtain⟨qb,Il⟩:∃qb,qb=w3.heap.size:=⟨_,rfl⟩
     have hqr:qb≠r:=by omega
     rw[←Il]at q4 q5 za⊢
     have HZ:=Lib.hid Il
     clear hb4 Il hz3
     go_wp2_with fail
     (with_reducible refine(sV.out w4 dS.out).mono ?_)
     rintro e w5 ⟨rfl,rfl⟩
     go_wp2_with fail
     (with_reducible refine(MI.out w4 dS.out).mono ?_)
     rintro e w5 O5
     obtain⟨rfl,tJ,Cz⟩:=O5
     have QF:w5.cell? ⟨qb,2,none⟩=some (.int .i64 y.links):=(tJ.cell_ za hqr 2).trans q4
     have QG:w5.cell? ⟨qb,5,none⟩=some (.bool false):=(tJ.cell_ za hqr 5).trans q5
     have Fa:qb<w5.heap.size:=by have:=tJ.size;omega
     have E_:=Lib.hid (rO id (-1) y w5 Cz Bn.out JJ.out (by omega) hlk)
     have Dm:Hid (bH F w4 r (ak T d n1) (.tuple #[]) (.returned (.tuple #[])) w5):=⟨rfl,tJ,Cz⟩
     clear tJ Cz q4 q5
     go_wp2_with fail
     (with_reducible refine E_.out.mono ?_)
     rintro e w6 mo
     obtain⟨rfl,Bp,O_⟩:=mo
     have q4:w6.cell? ⟨qb,2,none⟩=some (.int .i64 y.links):=(Bp.cell_ Fa hqr 2).trans QF
     have q5:w6.cell? ⟨qb,5,none⟩=some (.bool false):=(Bp.cell_ Fa hqr 5).trans QG
     have Zh:qb<w6.heap.size:=by have:=Bp.size;omega
     have jS:Hid (bH (Grow F w4 w5) w5 r (aX id (fun x=>{x with links:=x.links+ -1}) (ak T d n1)) (.tuple #[]) (.returned (.tuple #[])) w6):=⟨rfl,Bp,O_⟩
     clear Bp O_ QF QG
     go_wp2_with fail
     go_ret
     rw[HQ.out]
     exact(dB.behind HH.out.low dS.out (Dm.out.trans (HH.out.below dS.out (Nat.le_refl _)).low jS.out)).val _
   ·have e1:(y.links==1)=false:=by simpa using h3
    rw[if_neg (fun h=>h3 h.1)]at HQ
    clear h3
    go_enter Tryz.func34,Tryz.ntmps34
    go_wp2_with fail
    (with_reducible refine H1.out.mono ?_)
    rintro e w1 ⟨rfl,hb1⟩
    have HB1:=Lib.hid hb1
    clear hb1
    go_wp2_with fail
    (with_reducible refine(vo.out w1 HB1.out).mono ?_)
    rintro e w3 ⟨rfl,hb3⟩
    have HB3:=Lib.hid (HB1.out.trans (hb3.mono HB1.out.size))
    have hz3:=HB3.out.size
    clear hb3
    go_wp2_with fail
    (with_reducible refine(H3.out _ (HB3.out.trans ((wall w3 _).mono HB3.out.size))).mono ?_)
    rintro e w4 ⟨rfl,hb4⟩
    have dS:=Lib.hid ((HB3.out.trans ((wall w3 _).mono HB3.out.size)).trans (hb4.mono (by simp;omega)))
    have q4:w4.cell? ⟨w3.heap.size,2,none⟩=some (.int .i64 y.links):=by rw[hb4.cell (p:=⟨w3.heap.size,2,none⟩) (by simp)];exact eP w3 _ _ 2
    have q5:w4.cell? ⟨w3.heap.size,5,none⟩=some (.bool y.closed):=by rw[hb4.cell (p:=⟨w3.heap.size,5,none⟩) (by simp)];exact eP w3 _ _ 5
    have za:w3.heap.size<w4.heap.size:=by have:=hb4.size;simp at this;omega
    obtain⟨qb,Il⟩:∃qb,qb=w3.heap.size:=⟨_,rfl⟩
    have hqr:qb≠r:=by omega
    rw[←Il]at q4 q5 za⊢
    have HZ:=Lib.hid Il
    clear hb4 Il hz3
    go_wp2_with fail
    (with_reducible refine(sV.out w4 dS.out).mono ?_)
    rintro e w5 ⟨rfl,rfl⟩
    go_wp2_with fail
    (with_reducible refine(MI.out w4 dS.out).mono ?_)
    rintro e w5 O5
    obtain⟨rfl,tJ,Cz⟩:=O5
    have QF:w5.cell? ⟨qb,2,none⟩=some (.int .i64 y.links):=(tJ.cell_ za hqr 2).trans q4
    have QG:w5.cell? ⟨qb,5,none⟩=some (.bool y.closed):=(tJ.cell_ za hqr 5).trans q5
    have Fa:qb<w5.heap.size:=by have:=tJ.size;omega
    have E_:=Lib.hid (rO id (-1) y w5 Cz Bn.out JJ.out (by omega) hlk)
    have Dm:Hid (bH F w4 r (ak T d n1) (.tuple #[]) (.returned (.tuple #[])) w5):=⟨rfl,tJ,Cz⟩
    clear tJ Cz q4 q5
    go_wp2_with fail
    (with_reducible refine E_.out.mono ?_)
    rintro e w6 mo
    obtain⟨rfl,Bp,O_⟩:=mo
    have q4:w6.cell? ⟨qb,2,none⟩=some (.int .i64 y.links):=(Bp.cell_ Fa hqr 2).trans QF
    have q5:w6.cell? ⟨qb,5,none⟩=some (.bool y.closed):=(Bp.cell_ Fa hqr 5).trans QG
    have Zh:qb<w6.heap.size:=by have:=Bp.size;omega
    have jS:Hid (bH (Grow F w4 w5) w5 r (aX id (fun x=>{x with links:=x.links+ -1}) (ak T d n1)) (.tuple #[]) (.returned (.tuple #[])) w6):=⟨rfl,Bp,O_⟩
    clear Bp O_ QF QG
    go_wp2_with fail
    go_ret
    rw[HQ.out]
    exact(dB.behind HH.out.low dS.out (Dm.out.trans (HH.out.below dS.out (Nat.le_refl _)).low jS.out)).val _
 ·have HQ:Hid (b_ T ls=((dY T ls).2,T)):=by
   show b_ T ls=_
   have he:gQ T ls=(dY T ls).2:=by unfold gQ;rw[if_pos h1]
   unfold b_
   rw[he,if_neg h1]
  generalize dY T ls=lk at*
  obtain⟨id,e1⟩:=lk
  simp only at h1 H1 HQ
  have hne:(e1==0)=false:=by simpa using h1
  have hne2:(e1 !=0)=true:=by simpa using h1
  clear h hT hS hE h1
  go_enter Tryz.func34,Tryz.ntmps34
  go_wp2_with fail
  (with_reducible refine H1.out.mono ?_)
  rintro e w1 ⟨rfl,hb1⟩
  have HB1:=Lib.hid hb1
  clear hb1
  go_wp2_with fail
  go_ret
  exact bH.no HH.out HB1.out HQ.out
end
theorem pG {T:aF} {p:List Nm} {v:Int} (h:g_ T p=v) (hv:v≠0):dF T p=(v,T):=by
 unfold dF
 rw[h,if_neg hv]
section
variable {F:Nat→Prop} {r:Nat} {T:aF}
set_option maxRecDepth 100000 in
set_option maxHeartbeats 8000000 in
theorem Gm {S:Nat→Prop} (a:Option Addr) (n c:Nat) (ls:List Nm) (w:World) (h:gW F w r T) (hT:fB T) (hS:aP S w a n (ls.map strOf)) (hc:n≤c) (oP:n≤1000000):
  Calls Tryz.prog 104 #[ptr r, .slice a n c] w (bH F w r (dF T ls).2 (.int .i64 (dF T ls).1)):=by
 have hE:(aU T).length≤1000000:=by have:=gX hT;omega
 have hln:ls.length=n:=by have:=hS.length;simpa using this
 have H1:=Lib.hid (vT a n c ls w h hT hE hS)
 have H3:=Lib.hid (fun w1 (hb:Below w.heap.size w w1)=>kP a n c ls w1 (h.below hb (Nat.le_refl _)) hT hE (hS.below hb (Nat.le_refl _)) hc oP)
 have H4:=Lib.hid (fun w1 (hb:Below w.heap.size w w1) id=>Bo id w1 (h.below hb (Nat.le_refl _)) hT)
 have H5:=Lib.hid (fun w1 (hb:Below w.heap.size w w1) d nm=>iW d nm w1 (h.below hb (Nat.le_refl _)) hE)
 have HH:=Lib.hid h
 have HT:=Lib.hid hT
 have hr0:=h.low r h.own
 by_cases h1:(dY T ls).2=0
 ·have zf:=ze h1
  rw[zf]at h1 H1
  have hl2:aA T 0 ls=((aA T 0 ls).1,0):=Prod.ext rfl h1
  obtain⟨y,hy⟩:=Option.isSome_iff_exists.1 (eF hT.w ls 0 (dH hT.w) h1)
  have hue:g_ T ls=if y.kind≠2 then 23 else if (aA T 0 ls).1=0 then 1 else if 0<y.names.length then 24 else 0:=by
   unfold g_
   rw[zf,if_neg (by rw[h1];simp),aY hy,bT hy]
  obtain⟨id,hid⟩:∃id,id=(aA T 0 ls).1:=⟨_,rfl⟩
  rw[←hid]at hl2 hy hue
  rw[hl2]at H1
  simp only at H1
  have E_:=Lib.hid (fun w1 hb=>H4.out w1 hb id)
  have hlm:oh T id=if y.kind=2 then(y.names.map (·.1),0)else([],23):=by unfold oh;rw[hy]
  rw[hlm]at E_
  by_cases h2:y.kind=2
  ·rw[if_pos h2]at E_
   rw[if_neg (by simpa using h2)]at hue
   by_cases h3:ls=[]
   ·have qm:id=0:=by rw[hid,h3];rfl
    rw[if_pos qm]at hue
    have hn0:n=0:=by rw[←hln,h3];rfl
    have HQ:=Lib.hid (pG hue (by omega))
    subst hn0
    clear h hT hS hE H4 zf h1 hl2 hue hid hy h2 hlm h3 qm hln hc
    go_enter Tryz.func104,Tryz.ntmps104
    go_wp2_with fail
    (with_reducible refine H1.out.mono ?_)
    rintro e w1 ⟨rfl,hb1⟩
    have HB1:=Lib.hid hb1
    clear hb1
    go_wp2_with fail
    (with_reducible refine(E_.out w1 HB1.out).mono ?_)
    rintro e w3 ⟨al,cl,rfl,-,-,hb3⟩
    have HB3:=Lib.hid (HB1.out.trans (hb3.mono HB1.out.size))
    clear hb3
    simp only[List.length_map]
    go_wp2_with fail
    go_ret
    exact bH.no HH.out HB3.out HQ.out
   ·have qm:id≠0:=fun e=>by
     obtain⟨d,x,n1,_,_,hx,_,hxn,_,-⟩:=bQ hl2 h3
     exact(hT.leads d x hx _ (bq hxn)).2 e
    rw[if_neg qm]at hue
    have hn0:((n:Int)==0)=false:=by
     have:ls.length≠0:=fun e=>h3 (List.eq_nil_of_length_eq_zero e)
     simp;omega
    obtain⟨m,hm⟩:∃m,m=y.names.length:=⟨_,rfl⟩
    have hml:(y.names.map (·.1)).length=m:=by rw[List.length_map,hm]
    rw[←hm]at hue
    by_cases h4:0<m
    ·rw[if_pos h4]at hue
     have HQ:=Lib.hid (pG hue (by omega))
     have hd4:decide (0<m)=true:=by simpa using h4
     generalize y.names.map (·.1)=L at*
     subst hml
     clear h hT hS hE H4 zf h1 hl2 hue hid hy h2 hlm h3 qm hln hc hm
     go_enter Tryz.func104,Tryz.ntmps104
     go_wp2_with fail
     (with_reducible refine H1.out.mono ?_)
     rintro e w1 ⟨rfl,hb1⟩
     have HB1:=Lib.hid hb1
     clear hb1
     go_wp2_with fail
     (with_reducible refine(E_.out w1 HB1.out).mono ?_)
     rintro e w3 ⟨al,cl,rfl,-,-,hb3⟩
     have HB3:=Lib.hid (HB1.out.trans (hb3.mono HB1.out.size))
     clear hb3
     go_wp2_with fail
     go_ret
     exact bH.no HH.out HB3.out HQ.out
    ·rw[if_neg h4]at hue
     have hm0:m=0:=by omega
     have hnil:y.names=[]:=List.eq_nil_of_length_eq_zero (by omega)
     rw[hnil]at E_
     obtain⟨d,x,n1,hp1,hp2,hx,hxk,hxn,hmm,-⟩:=bQ hl2 h3
     rw[hp1]at H3
     simp only at H3
     have MH:id≠d:=fun e=>by rw[e,hx]at hy;cases hy;rw[hnil]at hxn;cases hxn
     have Bn:=Lib.hid ((qN.of hT).cut d n1)
     obtain⟨k,hk,-⟩:=uO (qN.of hT) hx hxn
     have sV:=Lib.hid (fun w1 hb=>H5.out w1 hb d n1)
     rw[hk]at sV
     have MI:Hid (∀w4,Below w.heap.size w w4→Calls Tryz.prog 85 #[ptr r, .int .i64 k] w4 (bH F w4 r (ak T d n1) (.tuple #[]))):=fun w4 hb=>by
      obtain⟨k',hk',hc'⟩:=xG d n1 id x w4 (h.below hb (Nat.le_refl _)) (qN.of hT) hx hxn
      rw[hk]at hk'
      have:k=k':=by omega
      rw[this]
      exact hc'
     have JJ:Hid (ah id (ak T d n1)=some y):=by
      show ah id (ak T d n1)=some y
      unfold ak
      rw[aS,if_neg MH]
      exact hy
     have FL:=Lib.hid hnil
     have HQ:Hid (dF T ls=(0,bB id (ak T d n1))):=by
      show dF T ls=_
      unfold dF tO
      rw[hue,hp1,←hid]
      rfl
     clear h hT hS hE H4 H5 zf h1 hl2 hue hid hy h2 h3 hp1 hp2 hx hxk hxn hmm hk MH hm0 hnil hml hm h4 hlm hln qm hc
     go_enter Tryz.func104,Tryz.ntmps104
     go_wp2_with fail
     (with_reducible refine H1.out.mono ?_)
     rintro e w1 ⟨rfl,hb1⟩
     have HB1:=Lib.hid hb1
     clear hb1
     go_wp2_with fail
     (with_reducible refine(E_.out w1 HB1.out).mono ?_)
     rintro e w3 ⟨al,cl,rfl,-,-,hb3⟩
     have HB3:=Lib.hid (HB1.out.trans (hb3.mono HB1.out.size))
     clear hb3
     simp only[List.map_nil,List.length_nil]
     go_wp2_with fail
     (with_reducible refine(H3.out _ HB3.out).mono ?_)
     rintro e w4 ⟨rfl,hb4⟩
     have dS:=Lib.hid (HB3.out.trans (hb4.mono HB3.out.size))
     clear hb4
     go_wp2_with fail
     (with_reducible refine(sV.out w4 dS.out).mono ?_)
     rintro e w5 ⟨rfl,rfl⟩
     go_wp2_with fail
     (with_reducible refine(MI.out w4 dS.out).mono ?_)
     rintro e w5 O5
     obtain⟨rfl,tJ,Cz⟩:=O5
     have CX:=Lib.hid (qO id y w5 Cz Bn.out.sorted Bn.out.len JJ.out FL.out)
     have Dm:Hid (bH F w4 r (ak T d n1) (.tuple #[]) (.returned (.tuple #[])) w5):=⟨rfl,tJ,Cz⟩
     clear tJ Cz
     go_wp2_with fail
     (with_reducible refine CX.out.mono ?_)
     rintro e w6 mo
     have jS:=Lib.hid mo
     obtain rfl:=mo.1
     clear mo
     go_wp2_with fail
     go_ret
     rw[HQ.out]
     exact(dB.behind HH.out.low dS.out (Dm.out.trans (HH.out.below dS.out (Nat.le_refl _)).low jS.out)).val _
  ·rw[if_neg h2]at E_
   rw[if_pos h2]at hue
   have HQ:=Lib.hid (pG hue (by omega))
   clear h hT hS hE H4 zf h1 hl2 hue hid hy h2 hlm hln hc
   go_enter Tryz.func104,Tryz.ntmps104
   go_wp2_with fail
   (with_reducible refine H1.out.mono ?_)
   rintro e w1 ⟨rfl,hb1⟩
   have HB1:=Lib.hid hb1
   clear hb1
   go_wp2_with fail
   (with_reducible refine(E_.out w1 HB1.out).mono ?_)
   rintro e w3 ⟨al,cl,rfl,-,-,hb3⟩
   have HB3:=Lib.hid (HB1.out.trans (hb3.mono HB1.out.size))
   clear hb3
   simp only[List.length_nil]
   go_wp2_with fail
   go_ret
   exact bH.no HH.out HB3.out HQ.out
 ·have HQ:Hid (dF T ls=((dY T ls).2,T)):=pG (by unfold g_;rw[if_pos h1]) h1
  generalize dY T ls=lk at*
  obtain⟨id,e1⟩:=lk
  simp only at h1 H1 HQ
  have hne:(e1==0)=false:=by simpa using h1
  have hne2:(e1 !=0)=true:=by simpa using h1
  clear h hT hS hE h1 hln hc
  go_enter Tryz.func104,Tryz.ntmps104
  go_wp2_with fail
  (with_reducible refine H1.out.mono ?_)
  rintro e w1 ⟨rfl,hb1⟩
  have HB1:=Lib.hid hb1
  clear hb1
  go_wp2_with fail
  go_ret
  exact bH.no HH.out HB1.out HQ.out
end
def Pb (F:Nat→Prop) (w:World) (bs:List UInt8) (k:Int) (e:Ending) (w':World):Prop:=
 ∃a n c,e= .returned (.tuple #[.slice a n c, .int .i64 k])∧aj F w a n (bs.map bv)∧w=w'
def MJ (F:Nat→Prop) (w:World) (bs:List UInt8) (k:Int) (e:Ending) (w':World):Prop:=
 ∃a n c,e= .returned (.tuple #[.slice a n c, .int .i64 k])∧aj F w a n (bs.map bv)∧w=w'∧n≤c
section
variable {F:Nat→Prop} {r:Nat} {T:aF}
set_option maxRecDepth 100000 in
set_option maxHeartbeats 8000000 in
theorem JL (id at_ n:Int) (w:World) (h:gW F w r T) (hT:rz T) (hA:(Lit.int .i64 at_).wf=true) (hN:(Lit.int .i64 n).wf=true):Calls Tryz.prog 108 #[ptr r, .int .i64 id, .int .i64 at_, .int .i64 n] w (MJ (Off F r) w (nO T id at_ n) (nN T id at_ n)):=by
 have HF:=Lib.hid (oo id w h hT)
 have hr0:=h.low r h.own
 have hfe:bM T id≠0∨bM T id=0:=by omega
 rcases hfe with h0|h0
 ·have e1:nN T id at_ n=bM T id∧nO T id at_ n=[]:=by
   unfold nN nO bM at*
   cases hx:ah id T with
   |none=>simp
   |some x=>
    rw[hx]at h0
    simp only at h0⊢
    by_cases hk:x.kind=2
    ·simp[hk]
    ·rw[if_neg hk]at h0;exact absurd rfl h0
  rw[e1.1,e1.2]
  generalize bM T id=f at*
  have hne:(f==0)=false:=by simpa using h0
  have hne2:(f !=0)=true:=by simpa using h0
  clear h hT e1 h0 hA hN
  go_enter Tryz.func108,Tryz.ntmps108
  go_wp2_with fail
  (with_reducible refine HF.out.mono ?_)
  rintro e w1 ⟨rfl,rfl⟩
  go_wp2_with fail
  go_ret2
  exact⟨none,0,0,rfl,aj.nil _ _ _,rfl,Nat.le_refl _⟩
 ·obtain⟨x,hx,hk⟩:∃x,ah id T=some x∧x.kind≠2:=by
   unfold bM at h0
   cases hx:ah id T with
   |none=>rw[hx]at h0;cases h0
   |some x=>
    rw[hx]at h0
    exact⟨x,rfl,fun hk=>by simp[hk]at h0⟩
  obtain⟨k,hi,hq⟩:=jr hT.sorted hx
  have hrf:Ec T id=k:=by unfold Ec;rw[if_pos h0];exact hi
  rw[hrf,h0]at HF
  have e1:nN T id at_ n=xQ at_ n∧nO T id at_ n=xR x.b at_ n:=by
   unfold nN nO
   rw[hx]
   exact⟨if_neg hk,if_neg hk⟩
  rw[e1.1,e1.2]
  obtain⟨b,off,c,a,c',hc1,hO,hb,hcd,hcap,hrow⟩:=h.data (k:=k) (d:=x.b) (by rw[List.getElem?_map,hq];rfl)
  have hkl:k<T.length:=(List.getElem?_eq_some_iff.1 hq).1
  rw[List.length_map]at hc1
  have hlen:=hT.len
  have hsz:=(hT.each id x hx).size
  obtain⟨l,hl⟩:∃l,l=x.b.length:=⟨_,rfl⟩
  rw[←hl]at hcd hcap hrow hsz
  have hcc:=hcap.1
  have i0:(0:Int)≤k:=by omega
  have i1:(k:Int)<T.length:=by omega
  have HR:=Lib.hid hrow
  have HL:=Lib.hid hl
  simp[Lit.wf,IntKind.min,IntKind.max,IntKind.signed,IntKind.bits]at hA hN
  generalize x.b=bs at*
  generalize T.length=tl at*
  clear h hT e1 h0 hx hk hi hq hrf hl hrow hcap
  unfold xQ xR
  by_cases h1:at_<0
  ·rw[if_pos (.inl h1),if_pos (.inl h1)]
   go_enter Tryz.func108,Tryz.ntmps108
   go_wp2_with fail
   (with_reducible refine HF.out.mono ?_)
   rintro e w1 ⟨rfl,rfl⟩
   go_wp2_with fail
   go_ret2
   exact⟨none,0,0,rfl,aj.nil _ _ _,rfl,Nat.le_refl _⟩
  ·by_cases h2:n<0
   ·rw[if_pos (.inr h2),if_pos (.inr h2)]
    go_enter Tryz.func108,Tryz.ntmps108
    go_wp2_with fail
    (with_reducible refine HF.out.mono ?_)
    rintro e w1 ⟨rfl,rfl⟩
    go_wp2_with fail
    go_ret2
    exact⟨none,0,0,rfl,aj.nil _ _ _,rfl,Nat.le_refl _⟩
   ·rw[if_neg (by omega),if_neg (by omega)]
    obtain⟨A,rfl⟩:∃A:Nat,at_=A:=⟨at_.toNat,by omega⟩
    obtain⟨N,rfl⟩:∃N:Nat,n=N:=⟨n.toNat,by omega⟩
    simp only[Int.toNat_natCast]
    have hd1:decide ((A:Int)<0)=false:=by simp
    have hd2:decide ((N:Int)<0)=false:=by simp
    by_cases h3:l≤A
    ·have hd3:decide ((l:Int)≤(A:Int))=true:=by simp;omega
     have WX:decide (l≤A)=true:=by simpa using h3
     have HE:Hid ((bs.drop A).take N=[]):=by
      show(bs.drop A).take N=[]
      rw[List.drop_of_length_le (by have:=HL.out;omega),List.take_nil]
     go_enter Tryz.func108,Tryz.ntmps108
     go_wp2_with fail
     (with_reducible refine HF.out.mono ?_)
     rintro e w1 ⟨rfl,rfl⟩
     go_wp2_with fail
     go_ret2
     exact⟨none,0,0,rfl,by rw[HE.out];exact aj.nil _ _ _,rfl,Nat.le_refl _⟩
    ·have hd3:decide ((l:Int)≤(A:Int))=false:=by simp;omega
     have WX:decide (l≤A)=false:=by simpa using h3
     obtain⟨b2,off2,rfl,hO2,hb2,-⟩:=HR.out.at_ (by omega)
     have hca:¬c'=A:=by omega
     have e1:IntKind.i64.wrap ((l:Int)-(A:Int))=(l:Int)-(A:Int):=IntWalk.i64_in _ (by omega)
     have i2:(0:Int)≤(A:Int):=by omega
     have i5:(l:Int)≤(c':Int):=by omega
     by_cases h4:l-A<N
     ·have hd4:decide ((l:Int)-(A:Int)<(N:Int))=true:=by simp;omega
      have e2:IntKind.i64.wrap ((A:Int)+((l:Int)-(A:Int)))=(l:Int):=by rw[show(A:Int)+((l:Int)-(A:Int))=l by omega];exact IntWalk.i64_in _ (by omega)
      have i3:(A:Int)≤(l:Int):=by omega
      have HE:Hid ((bs.drop A).take N=(bs.drop A).take (l-A)):=by
       show(bs.drop A).take N=_
       have:=HL.out
       rw[List.take_of_length_le (by simp;omega),List.take_of_length_le (by simp;omega)]
      go_enter Tryz.func108,Tryz.ntmps108
      go_wp2_with fail
      (with_reducible refine HF.out.mono ?_)
      rintro e w1 ⟨rfl,rfl⟩
      go_wp2_with fail
      go_ret2
      refine⟨some ⟨b2,off2+A,none⟩,l-A,_,rfl,?_,rfl,by omega⟩
      rw[HE.out,List.map_take,List.map_drop]
      have:=(HR.out.drop A).take (l-A)
      rwa [Nat.min_self]at this
     ·have hd4:decide ((l:Int)-(A:Int)<(N:Int))=false:=by simp;omega
      have e2:IntKind.i64.wrap ((A:Int)+(N:Int))=(A:Int)+(N:Int):=IntWalk.i64_in _ (by omega)
      have i3:(A:Int)≤(A:Int)+(N:Int):=by omega
      have i4:(A:Int)+(N:Int)≤(c':Int):=by omega
      go_enter Tryz.func108,Tryz.ntmps108
      go_wp2_with fail
      (with_reducible refine HF.out.mono ?_)
      rintro e w1 ⟨rfl,rfl⟩
      go_wp2_with fail
      go_ret2
      refine⟨some ⟨b2,off2+A,none⟩,N,c'-A,?_,?_,rfl,by omega⟩
      ·show Ending.returned (.tuple #[.slice (some ⟨b2,off2+A,none⟩) (A+N-A) (c'-A), .int .i64 0])=_
       rw[show A+N-A=N by omega]
      ·rw[List.map_take,List.map_drop]
       have:=(HR.out.drop A).take N
       rwa [Nat.min_eq_right (by omega)]at this
theorem JM (id at_ n:Int) (w:World) (h:gW F w r T) (hT:rz T) (hA:(Lit.int .i64 at_).wf=true) (hN:(Lit.int .i64 n).wf=true):Calls Tryz.prog 108 #[ptr r, .int .i64 id, .int .i64 at_, .int .i64 n] w (Pb (Off F r) w (nO T id at_ n) (nN T id at_ n)):=
 (JL id at_ n w h hT hA hN).mono fun e w' ⟨a,m,c,h1,h2,h3,_⟩=>⟨a,m,c,h1,h2,h3⟩
end
end Go.Proofs.YtjnhnlabpccgjaaGreat
