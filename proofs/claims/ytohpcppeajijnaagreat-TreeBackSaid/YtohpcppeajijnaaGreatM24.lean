/- The reference: Link. The reference: List. The reference: Unlink, Rmdir. -/
import Derived.Test.YtohpcppeajijnaaGreatM23
namespace Go.Proofs.YtohpcppeajijnaaGreat
open Go.ChangeShapes Go.WideShapes Go.ChangeAt Go.RowKit
set_option linter.unusedVariables false
set_option linter.unusedSimpArgs false
theorem FP {T:aF} {p q:List Nm} {v:Int} (h:jC T p q=v) (hv:v≠0):dz T p q=(v,T):=by
 unfold dz
 rw[h,if_neg hv]
theorem Dq {T:aF} {p q:List Nm} (h:jC T p q=0):dz T p q=(0,vS T p q):=by
 unfold dz
 rw[h,if_pos rfl]
theorem eU (w:World) (cs:Array Value) (t:TypeId) (j:Nat):(w.alloc (.cells cs t)).cell? ⟨w.heap.size,j,none⟩=cs[j]? :=by
 have:=(MapKept.heap_alloc w (.cells cs t)).1
 unfold World.cell?
 simp only[this]
 rfl
section
variable {F:Nat→Prop} {r:Nat} {T:aF}
theorem bC.no {w w':World} {v:Int} (h:gX F w r T) (hb:Below w.heap.size w w') {q:Int×aF} (hq:q=(v,T)):bC F w r q.2 (.int .i64 q.1) (.returned (.int .i64 v)) w':=by
 rw[hq]
 exact dh.same h hb
set_option maxRecDepth 100000 in
set_option maxHeartbeats 8000000 in
theorem ze {S S':Nat→Prop} (a:Option Addr) (n c:Nat) (ls:List Nm) (a':Option Addr) (n' c':Nat) (ls':List Nm) (w:World) (h:gX F w r T) (hT:dG T) (hS:aH S w a n (ls.map strOf)) (hS':aH S' w a' n' (ls'.map strOf)) (hc':n'≤c') (uj:n'≤1000000):
  Calls Tryz.prog 17 #[ptr r, .slice a n c, .slice a' n' c'] w (bC F w r (dz T ls ls').2 (.int .i64 (dz T ls ls').1)):=by
 have hE:(aV T).length≤1000000:=by have:=gQ hT;omega
 have H1:=Lib.hid (uN a n c ls a' n' c' ls' w hS hS')
 have H2:=Lib.hid (fun w1 (hb:Below w.heap.size w w1)=>qA a n c ls w1 (h.below hb (Nat.le_refl _)) hT hE (hS.below hb (Nat.le_refl _)))
 have H3:=Lib.hid (fun w1 (hb:Below w.heap.size w w1)=>j3 a' n' c' ls' w1 (h.below hb (Nat.le_refl _)) hT hE (hS'.below hb (Nat.le_refl _)) hc' uj)
 have H4:=Lib.hid (fun w1 (hb:Below w.heap.size w w1) id=>iV id w1 (h.below hb (Nat.le_refl _)) hT.tovw)
 have H5:=Lib.hid (fun w1 (hb:Below w.heap.size w w1) d nm=>iN d nm w1 (h.below hb (Nat.le_refl _)) hE)
 have HH:=Lib.hid h
 have HT:=Lib.hid hT
 have HB:=Lib.hid (fun(v:Int) (hv:v≠0) (he:jC T ls ls'=v)=>FP he hv)
 have HG:=Lib.hid (Dq (T:=T) (p:=ls) (q:=ls'))
 have hr0:=h.low r h.own
 unfold jC at HB HG
 have Az:=Lib.hid (fA hT ls 0 (dU hT))
 have NK:=Lib.hid (fQ (p:=ls') hT)
 unfold vS at HG
 generalize iw ls ls'=f0 at H1 HB HG
 generalize aC T 0 ls=lk at H2 HB HG Az
 generalize aB T ls'=pl at H3 HB HG NK
 obtain⟨id,e1⟩:=lk
 obtain⟨d2,n2,e2⟩:=pl
 simp only at H2 H3 HB HG Az NK
 generalize dz T ls ls'=res at HB HG⊢
 clear h hT hS hS' hE
 by_cases h0:f0=0
 ·subst h0
  by_cases h1:e1=0
  ·subst h1
   obtain⟨y,hy⟩:=Option.isSome_iff_exists.1 (Az.out rfl)
   have tF:=Lib.hid (fun w1 hb=>H4.out w1 hb id)
   have hnd:iI T id=jg id y:=by unfold iI;rw[hy]
   rw[hnd]at tF
   unfold jg at tF
   have hky:bq T id=y.kind:=bI hy
   have Sn:nU T id=y.links:=by unfold nU;rw[hy]
   rw[hky,Sn]at HB
   rw[hky,Sn]at HG
   have HY:=Lib.hid hy
   have hlk:=(HT.out.each id y hy).links
   clear hnd hky Sn hy H4
   by_cases h2:y.kind=2
   ·have hk1:(y.kind==2)=true:=by simpa using h2
    have HQ:=Lib.hid (HB.out 22 (by omega) (by rw[if_neg (by simp),if_neg (by simp),if_pos h2]))
    clear h2
    go_enter Tryz.func17,Tryz.ntmps17
    go_wp2_with fail
    (with_reducible refine H1.out.mono ?_)
    rintro e w1 ⟨rfl,hb1⟩
    have HB1:=Lib.hid hb1
    clear hb1
    go_wp2_with fail
    (with_reducible refine(H2.out w1 HB1.out).mono ?_)
    rintro e w2 ⟨rfl,hb2⟩
    have HB2:=Lib.hid (HB1.out.trans (hb2.mono HB1.out.size))
    clear hb2
    go_wp2_with fail
    (with_reducible refine(tF.out w2 HB2.out).mono ?_)
    rintro e w3 ⟨rfl,hb3⟩
    have HB3:=Lib.hid (HB2.out.trans (hb3.mono HB2.out.size))
    have hz3:=HB3.out.size
    clear hb3
    go_wp2_with fail
    go_ret
    exact bC.no HH.out (HB3.out.trans ((wall w3 _).mono HB3.out.size)) HQ.out
   ·have hk1:(y.kind==2)=false:=by simpa using h2
    by_cases h3:e2=0
    ·subst h3
     obtain⟨x,hx,hxk,hxm⟩:=NK.out rfl
     have hnm:aO T d2=x.names:=cB hx
     rw[hnm]at HB
     rw[hnm]at HG
     have qZ:=Lib.hid (fun w1 hb=>H5.out w1 hb d2 n2)
     cases hn:aj n2 x.names with
     |some j=>
      obtain⟨m,hm1,hm2⟩:=nH HT.out.tovw hx hn
      rw[hm1]at qZ
      have m0:¬(m:Int)<0:=by omega
      have m1:(0:Int)≤m:=by omega
      have HQ:=Lib.hid (HB.out 21 (by omega) (by rw[if_neg (by simp),if_neg (by simp),if_neg h2,if_neg (by simp),hn];rfl))
      clear h2 hn hx hxk hxm hnm hm1 hm2
      go_enter Tryz.func17,Tryz.ntmps17
      go_wp2_with fail
      (with_reducible refine H1.out.mono ?_)
      rintro e w1 ⟨rfl,hb1⟩
      have HB1:=Lib.hid hb1
      clear hb1
      go_wp2_with fail
      (with_reducible refine(H2.out w1 HB1.out).mono ?_)
      rintro e w2 ⟨rfl,hb2⟩
      have HB2:=Lib.hid (HB1.out.trans (hb2.mono HB1.out.size))
      clear hb2
      go_wp2_with fail
      (with_reducible refine(tF.out w2 HB2.out).mono ?_)
      rintro e w3 ⟨rfl,hb3⟩
      have HB3:=Lib.hid (HB2.out.trans (hb3.mono HB2.out.size))
      have hz3:=HB3.out.size
      clear hb3
      go_wp2_with fail
      (with_reducible refine(H3.out _ (HB3.out.trans ((wall w3 _).mono HB3.out.size))).mono ?_)
      rintro e w4 ⟨rfl,hb4⟩
      have dX:=Lib.hid ((HB3.out.trans ((wall w3 _).mono HB3.out.size)).trans (hb4.mono (by simp;omega)))
      have q4:w4.cell? ⟨w3.heap.size,2,none⟩=some (.int .i64 y.links):=by rw[hb4.cell (p:=⟨w3.heap.size,2,none⟩) (by simp)];exact eU w3 _ _ 2
      have wO:w3.heap.size<w4.heap.size:=by have:=hb4.size;simp at this;omega
      clear hb4
      go_wp2_with fail
      (with_reducible refine(qZ.out w4 dX.out).mono ?_)
      rintro e w5 ⟨rfl,rfl⟩
      go_wp2_with fail
      go_ret
      exact bC.no HH.out dX.out HQ.out
     |none=>
      rw[pU HT.out.sorted hx hn]at qZ
      by_cases h4:64≤y.links
      ·have HQ:=Lib.hid (HB.out 4 (by omega) (by rw[if_neg (by simp),if_neg (by simp),if_neg h2,if_neg (by simp),hn,if_neg (by simp),if_pos h4]))
       have hd4:decide ((64:Int)≤y.links)=true:=by simpa using h4
       clear h2 hn hx hxk hxm hnm
       go_enter Tryz.func17,Tryz.ntmps17
       go_wp2_with fail
       (with_reducible refine H1.out.mono ?_)
       rintro e w1 ⟨rfl,hb1⟩
       have HB1:=Lib.hid hb1
       clear hb1
       go_wp2_with fail
       (with_reducible refine(H2.out w1 HB1.out).mono ?_)
       rintro e w2 ⟨rfl,hb2⟩
       have HB2:=Lib.hid (HB1.out.trans (hb2.mono HB1.out.size))
       clear hb2
       go_wp2_with fail
       (with_reducible refine(tF.out w2 HB2.out).mono ?_)
       rintro e w3 ⟨rfl,hb3⟩
       have HB3:=Lib.hid (HB2.out.trans (hb3.mono HB2.out.size))
       have hz3:=HB3.out.size
       clear hb3
       go_wp2_with fail
       (with_reducible refine(H3.out _ (HB3.out.trans ((wall w3 _).mono HB3.out.size))).mono ?_)
       rintro e w4 ⟨rfl,hb4⟩
       have dX:=Lib.hid ((HB3.out.trans ((wall w3 _).mono HB3.out.size)).trans (hb4.mono (by simp;omega)))
       have q4:w4.cell? ⟨w3.heap.size,2,none⟩=some (.int .i64 y.links):=by rw[hb4.cell (p:=⟨w3.heap.size,2,none⟩) (by simp)];exact eU w3 _ _ 2
       have wO:w3.heap.size<w4.heap.size:=by have:=hb4.size;simp at this;omega
       clear hb4
       go_wp2_with fail
       (with_reducible refine(qZ.out w4 dX.out).mono ?_)
       rintro e w5 ⟨rfl,rfl⟩
       go_wp2_with fail
       go_ret
       exact bC.no HH.out dX.out HQ.out
      ·have HQ:=Lib.hid (HG.out (by rw[if_neg (by simp),if_neg (by simp),if_neg h2,if_neg (by simp),hn,if_neg (by simp),if_neg h4]))
       have hd4:decide ((64:Int)≤y.links)=false:=by simpa using h4
       have hid:id≠d2:=fun e=>by have:=HY.out;rw[e,hx]at this;cases this;exact h2 hxk
       have HL:=Lib.hid (pV.of HT.out)
       have HAD:=Lib.hid (fun w4 (hb:Below w.heap.size w w4)=>sM d2 n2 id x w4 (HH.out.below hb (Nat.le_refl _)) HL.out hx hn)
       have IQ:Hid (aj id (setName T d2 n2 id)=some y):=by
        show aj id (setName T d2 n2 id)=some y
        unfold setName
        rw[aQ,if_neg hid]
        exact HY.out
       have yc:Hid (pV (setName T d2 n2 id)):=HL.out.put hx hn (gQ HT.out) id
       clear h2 hn hx hxk hxm hnm h4 hid
       go_enter Tryz.func17,Tryz.ntmps17
       go_wp2_with fail
       (with_reducible refine H1.out.mono ?_)
       rintro e w1 ⟨rfl,hb1⟩
       have HB1:=Lib.hid hb1
       clear hb1
       go_wp2_with fail
       (with_reducible refine(H2.out w1 HB1.out).mono ?_)
       rintro e w2 ⟨rfl,hb2⟩
       have HB2:=Lib.hid (HB1.out.trans (hb2.mono HB1.out.size))
       clear hb2
       go_wp2_with fail
       (with_reducible refine(tF.out w2 HB2.out).mono ?_)
       rintro e w3 ⟨rfl,hb3⟩
       have HB3:=Lib.hid (HB2.out.trans (hb3.mono HB2.out.size))
       have hz3:=HB3.out.size
       clear hb3
       go_wp2_with fail
       (with_reducible refine(H3.out _ (HB3.out.trans ((wall w3 _).mono HB3.out.size))).mono ?_)
       rintro e w4 ⟨rfl,hb4⟩
       have dX:=Lib.hid ((HB3.out.trans ((wall w3 _).mono HB3.out.size)).trans (hb4.mono (by simp;omega)))
       have q4:w4.cell? ⟨w3.heap.size,2,none⟩=some (.int .i64 y.links):=by rw[hb4.cell (p:=⟨w3.heap.size,2,none⟩) (by simp)];exact eU w3 _ _ 2
       have wO:w3.heap.size<w4.heap.size:=by have:=hb4.size;simp at this;omega
       clear hb4
       go_wp2_with fail
       (with_reducible refine(qZ.out w4 dX.out).mono ?_)
       rintro e w5 ⟨rfl,rfl⟩
       go_wp2_with fail
       (with_reducible refine(HAD.out w4 dX.out).mono ?_)
       rintro e w5 KA
       obtain⟨rfl,rM,xS⟩:=KA
       have CB:=Lib.hid (qE id 1 y w5 xS yc.out IQ.out (by omega) hlk)
       have yO:Hid (bC F w4 r (setName T d2 n2 id) (.tuple #[]) (.returned (.tuple #[])) w5):=⟨rfl,rM,xS⟩
       clear rM xS
       go_wp2_with fail
       (with_reducible refine CB.out.mono ?_)
       rintro e w6 lu
       have g_:=Lib.hid lu
       obtain rfl:=lu.1
       clear lu
       go_wp2_with fail
       go_ret
       rw[HQ.out]
       exact(dh.behind HH.out.low dX.out (yO.out.trans (HH.out.below dX.out (Nat.le_refl _)).low g_.out)).val _
    ·have HQ:=Lib.hid (HB.out e2 h3 (by rw[if_neg (by simp),if_neg (by simp),if_neg h2,if_pos h3]))
     have hne:(e2==0)=false:=by simpa using h3
     have hne2:(e2 !=0)=true:=by simpa using h3
     clear h2 h3
     go_enter Tryz.func17,Tryz.ntmps17
     go_wp2_with fail
     (with_reducible refine H1.out.mono ?_)
     rintro e w1 ⟨rfl,hb1⟩
     have HB1:=Lib.hid hb1
     clear hb1
     go_wp2_with fail
     (with_reducible refine(H2.out w1 HB1.out).mono ?_)
     rintro e w2 ⟨rfl,hb2⟩
     have HB2:=Lib.hid (HB1.out.trans (hb2.mono HB1.out.size))
     clear hb2
     go_wp2_with fail
     (with_reducible refine(tF.out w2 HB2.out).mono ?_)
     rintro e w3 ⟨rfl,hb3⟩
     have HB3:=Lib.hid (HB2.out.trans (hb3.mono HB2.out.size))
     have hz3:=HB3.out.size
     clear hb3
     go_wp2_with fail
     (with_reducible refine(H3.out _ (HB3.out.trans ((wall w3 _).mono HB3.out.size))).mono ?_)
     rintro e w4 ⟨rfl,hb4⟩
     have dX:=Lib.hid ((HB3.out.trans ((wall w3 _).mono HB3.out.size)).trans (hb4.mono (by simp;omega)))
     have q4:w4.cell? ⟨w3.heap.size,2,none⟩=some (.int .i64 y.links):=by rw[hb4.cell (p:=⟨w3.heap.size,2,none⟩) (by simp)];exact eU w3 _ _ 2
     have wO:w3.heap.size<w4.heap.size:=by have:=hb4.size;simp at this;omega
     clear hb4
     go_wp2_with fail
     go_ret
     exact bC.no HH.out dX.out HQ.out
  ·have HQ:=Lib.hid (HB.out e1 h1 (by rw[if_neg (by simp),if_pos h1]))
   have hne:(e1==0)=false:=by simpa using h1
   have hne2:(e1 !=0)=true:=by simpa using h1
   clear h1
   go_enter Tryz.func17,Tryz.ntmps17
   go_wp2_with fail
   (with_reducible refine H1.out.mono ?_)
   rintro e w1 ⟨rfl,hb1⟩
   have HB1:=Lib.hid hb1
   clear hb1
   go_wp2_with fail
   (with_reducible refine(H2.out w1 HB1.out).mono ?_)
   rintro e w2 ⟨rfl,hb2⟩
   have HB2:=Lib.hid (HB1.out.trans (hb2.mono HB1.out.size))
   clear hb2
   go_wp2_with fail
   go_ret
   exact bC.no HH.out HB2.out HQ.out
 ·have HQ:=Lib.hid (HB.out f0 h0 (if_pos h0))
  have hne:(f0==0)=false:=by simpa using h0
  have hne2:(f0 !=0)=true:=by simpa using h0
  clear h0
  go_enter Tryz.func17,Tryz.ntmps17
  go_wp2_with fail
  (with_reducible refine H1.out.mono ?_)
  rintro e w1 ⟨rfl,hb1⟩
  have HB1:=Lib.hid hb1
  clear hb1
  go_wp2_with fail
  go_ret
  exact bC.no HH.out HB1.out HQ.out
end
theorem EH {id:Int}:∀{T:aF} {x:bF},aI fT T→aj id T=some x→(aV T).filter (fun e=>decide (e.1=id))=x.names.map fun e=>(id,e.1,e.2)
 |[],x,_,hx=>by cases hx
 |y::r,x,hs,hx=>by
  obtain⟨h1,h2⟩:=List.pairwise_cons.1 hs
  rw[eX]at hx
  rw[dN,List.filter_append]
  by_cases hy:y.1=id
  ·rw[if_pos hy]at hx
   cases hx
   have e1:(jy y).filter (fun e=>decide (e.1=id))=jy y:=by
    rw[List.filter_eq_self]
    intro e he
    obtain⟨z,_,rfl⟩:=List.mem_map.1 he
    simp[hy]
   have e2:(aV r).filter (fun e=>decide (e.1=id))=[]:=by
    rw[List.filter_eq_nil_iff]
    intro e he
    obtain⟨q,hq,hk,_⟩:=ED he
    have:=h1 q hq
    simp only[decide_eq_true_eq]at this
    simp only[decide_eq_true_eq]
    omega
   rw[e1,e2,List.append_nil]
   unfold jy
   rw[hy]
  ·rw[if_neg hy]at hx
   have e1:(jy y).filter (fun e=>decide (e.1=id))=[]:=by
    rw[List.filter_eq_nil_iff]
    intro e he
    obtain⟨z,_,rfl⟩:=List.mem_map.1 he
    simp[hy]
   rw[e1,List.nil_append,EH h2 hx]
def BI (E:List jc) (id:Int) (k:Nat):List Nm:=((E.take k).filter fun e=>decide (e.1=id)).map fun e=>e.2.1
def KC (E:List jc) (id:Int) (k:Nat):List Value:=(BI E id k).map fun n=> .string (strOf n)
theorem KD {E:List jc} {id:Int} {k:Nat} {e:jc} (hx:E[k]? =some e) (he:e.1=id):BI E id (k+1)=BI E id k++[e.2.1]:=by
 obtain⟨hk,h⟩:=List.getElem?_eq_some_iff.1 hx
 unfold BI
 rw[List.take_succ_eq_append_getElem hk,List.filter_append,h,List.map_append]
 simp[he]
theorem NM {E:List jc} {id:Int} {k:Nat} {e:jc} (hx:E[k]? =some e) (he:e.1≠id):BI E id (k+1)=BI E id k:=by
 obtain⟨hk,h⟩:=List.getElem?_eq_some_iff.1 hx
 unfold BI
 rw[List.take_succ_eq_append_getElem hk,List.filter_append,h,List.map_append]
 simp[he]
theorem KE (E:List jc) (id:Int) (k:Nat):(BI E id k).length≤k:=by
 unfold BI
 rw[List.length_map]
 exact Nat.le_trans (List.length_filter_le _ _) (List.length_take_le _ _)
theorem KF:(Tryz.prog.info? 9).map (fun i=>(i.zero,i.size,i.bytes))=some (some (.string ByteArray.empty),1,16):=by kernel_rfl
def sN (w0:World) (B:Nat) (E:List jc) (id:Int) (k:Nat) (v:Value) (wr:World):Prop:=
 wr.ownsRow B 9 1 v (BI E id k).length (KC E id k)∧Below B w0 wr∧B≤wr.heap.size
theorem FQ {w0 wr w3:World} {B:Nat} {E:List jc} {id:Int} {k m c:Nat} {nm:Nm} {v:Value} {A:Option Addr} {o:Obj} (hp:BI E id (k+1)=BI E id k++[nm]) (hm:m=(BI E id k).length) (ho3:w3.ownsRow B 9 1 (.slice A (m+1) c) (m+1) (KC E id k++[.string (strOf nm)])) (ho:wr.ownsRow B 9 1 v m (KC E id k)) (hg:(wr.alloc o).grownBy w3 v.ownBlock) (hB:Below B w0 wr) (Ph:B≤wr.heap.size):sN w0 B E id (k+1) (.slice A (m+1) c) w3:=by
 have hs:=hg.size
 have e1:(BI E id (k+1)).length=m+1:=by rw[hp,List.length_append,hm];rfl
 have e2:KC E id (k+1)=KC E id k++[.string (strOf nm)]:=by unfold KC;rw[hp,List.map_append];rfl
 unfold sN
 rw[e1,e2]
 refine⟨ho3,(hB.alloc Ph o).trans ⟨hg.os,hg.tape,hg.output,hg.size,fun b hb=>hg.block b (by simp;omega) (fun e=>by have:=iA ho b e.symm;omega)⟩,?_⟩
 rw[World.size_alloc]at hs
 omega
theorem IU {w w2 wr:World} {E:List jc} {id:Int} {k:Nat} {v:Value} {L:List Nm} (h:sN w2 w2.heap.size E id k v wr) (hL:BI E id k=L) (hb:Below w.heap.size w w2) (hs:∀l∈L,l.length≤maxLen):sw w (L,0) (.returned (.tuple #[v, .int .i64 0])) wr:=by
 obtain⟨ho,hB,Ph⟩:=h
 have hsz:=hb.size
 unfold KC at ho
 rw[hL]at ho
 obtain⟨a,c,rfl,hlc⟩:=kJ ho
 obtain⟨_,hrow⟩:=av.tY ho
 refine⟨a,c,rfl,hlc,⟨?_,fun s hs'=> ?_⟩,hb.trans (hB.mono hsz)⟩
 ·rw[List.map_map]
  exact hrow.mono fun b hb=>⟨by omega,hb.2⟩
 ·obtain⟨l,hl,rfl⟩:=List.mem_map.1 hs'
  rw[fF]
  exact hs l hl
section
variable {F:Nat→Prop} {r:Nat} {T:aF}
set_option maxRecDepth 100000 in
set_option maxHeartbeats 8000000 in
theorem um (id:Int) (w:World) (h:gX F w r T) (hT:dG T):Calls Tryz.prog 68 #[ptr r, .int .i64 id] w (sw w (kT T id)):=by
 have hE:=gQ hT
 have H4:=Lib.hid (iV id w h hT.tovw)
 have hr0:=h.low r h.own
 unfold iI at H4
 unfold kT
 cases hx:aj id T with
 |none=>
  rw[hx]at H4
  clear h hx hT
  go_enter Tryz.func68,Tryz.ntmps68
  go_wp2_with fail
  (with_reducible refine H4.out.mono ?_)
  rintro e w1 ⟨rfl,hb1⟩
  go_wp2_with fail
  go_ret2
  exact⟨none,0,rfl,Nat.le_refl _,⟨av.nil _ _ _,by simp⟩,hb1.trans ((wall w1 _).mono hb1.size)⟩
 |some x=>
  rw[hx]at H4
  simp only at H4
  unfold jg at H4
  by_cases hk:x.kind=2
  ·rw[hk]at H4
   simp only[if_pos hk]
   obtain⟨i0,hi,hz,hz1,hz2⟩:=info_parts KF
   have HI:=Lib.hid (And.intro hi (And.intro hz (And.intro hz1 hz2)))
   have HN:=Lib.hid (EH hT.sorted hx)
   have HH:=Lib.hid (fun w1 (hb:Below w.heap.size w w1)=>(h.below hb (Nat.le_refl _)).ent)
   have hgood:=Lib.hid ((hT.each id x hx).good)
   obtain⟨n,hn⟩:∃n,n=(aV T).length:=⟨_,rfl⟩
   generalize aV T=E at*
   rw[←hn]at hE
   have HL:=Lib.hid hn
   clear h hx hT hk hi hz hz1 hz2 hn
   go_enter Tryz.func68,Tryz.ntmps68
   go_wp2_with fail
   (with_reducible refine H4.out.mono ?_)
   rintro e w1 ⟨rfl,hb1⟩
   have HB1:=Lib.hid (hb1.trans ((wall w1 (.cells #[.int .i64 id, .int .i64 2, .int .i64 x.links, .int .i64 x.b.length, .int .u64 x.aK, .bool x.closed] 98)).mono hb1.size))
   have hs1:=hb1.size
   clear hb1
   go_wp2_with fail
   generalize (w1.alloc (.cells #[.int .i64 id, .int .i64 2, .int .i64 x.links, .int .i64 x.b.length, .int .u64 x.aK, .bool x.closed] 98))=w2 at*
   obtain⟨aE,cE,q2,q3,hrow,-⟩:=HH.out w2 HB1.out
   rw[←HL.out]at q2 q3 hrow
   have HR:=Lib.hid hrow
   have hs2:=HB1.out.size
   have hr2:r<w2.heap.size:=by omega
   clear hrow HH
   go_loopw [8,9] (fun v i wr=>∃k:Nat,k≤n∧i= .int .i64 k∧sN w2 w2.heap.size E id k v wr) (fun _ i _=>n-(intOf i).toNat)
   case atStart=>exact⟨0,by omega,rfl,⟨rfl, .inl ⟨rfl,rfl⟩⟩,Below.refl _ _,Nat.le_refl _⟩
   case round=>
    obtain⟨k,hk,rfl,hown,hB,Ph⟩:=hrel
    have HO:=Lib.hid hown
    have HB:=Lib.hid hB
    have c2:wr.cell? ⟨r,2,none⟩=some (.slice aE n cE):=by rw[hB.cell (p:=⟨r,2,none⟩) hr2];exact q2
    have hrr:r<wr.heap.size:=by omega
    have hll:=KE E id k
    clear hB hown
    by_cases hlt:k<n
    ·have hx:E[k]? =some (E[k]'(by have:=HL.out;omega)):=List.getElem?_eq_getElem _
     obtain⟨q,hq⟩:∃q,q=E[k]'(by have:=HL.out;omega):=⟨_,rfl⟩
     rw[←hq]at hx
     have HX:=Lib.hid hx
     obtain⟨b,off,rfl,hF,hb,hi,hc⟩:=(HR.out.below HB.out (Nat.le_refl _)).wide iD HL.out.symm hx (by omega)
     have c0:wr.cell? ⟨b,off+k*3,none⟩=some (.int .i64 q.1):=hc 0 (by omega)
     have c1:wr.cell? ⟨b,off+k*3+1,none⟩=some (.string (strOf q.2.1)):=hc 1 (by omega)
     clear hx hq hc
     have i0:(0:Int)≤k:=by omega
     have i1:(k:Int)<n:=by omega
     by_cases hp:q.1=id
     ·have hpp:(q.1==id)=true:=by simpa using hp
      have HP:=Lib.hid (KD HX.out hp)
      obtain⟨m,hm⟩:∃m,m=(BI E id k).length:=⟨_,rfl⟩
      have HM:=Lib.hid hm
      rw[←hm]at HO hll
      clear hp hm
      go_wp2_with ((at_builtin;refine gL rfl _ _ 26 rfl w2.heap.size 9 _ (.string ByteArray.empty) 16 Tryz.underlying26 HI.out.1 HI.out.2.1 HI.out.2.2.1 HI.out.2.2.2 rfl _ m (KC E id k) rfl (HO.out.alloc _) (some ⟨wr.heap.size,0,none⟩) 1 1 [.string (strOf q.2.1)] rfl (En _ _) (by simp[Value.oneCell']) (by unfold maxLen;omega) (by omega) (by simp;omega) ?_;intro A1 k1 w3 hown3 hgrow3 _ _))
      have HG:=Lib.hid hgrow3
      have Xk:=Lib.hid hown3
      clear hgrow3 hown3
      go_wp2
      go_roundw
      case rel=>exact⟨k+1,by omega,by go_num,FQ HP.out HM.out Xk.out HO.out HG.out HB.out Ph⟩
      case measure=>simp[intOf];omega
     ·have hpp:(q.1==id)=false:=by simpa using hp
      have HP:=Lib.hid (NM HX.out hp)
      clear hp
      go_wp2
      go_roundw
      case rel=>exact⟨k+1,by omega,by go_num,by unfold sN KC;rw[HP.out];exact⟨HO.out,HB.out,Ph⟩⟩
      case measure=>simp[intOf];omega
    ·go_wp2
     go_ret2
     have hkn:k=n:=by omega
     refine IU ⟨HO.out,HB.out,Ph⟩ ?_ HB1.out ?_
     ·unfold BI
      rw[List.take_of_length_le (by have:=HL.out;omega),HN.out,List.map_map]
      rfl
     ·intro l hl
      obtain⟨e,he,rfl⟩:=List.mem_map.1 hl
      have:=nC _ (hgood.out e he)
      unfold maxLen;omega
  ·have e1:(x.kind==2)=false:=by simpa using hk
   have e2:(x.kind !=2)=true:=by simpa using hk
   simp only[if_neg hk]
   clear h hx hT hk
   go_enter Tryz.func68,Tryz.ntmps68
   go_wp2_with fail
   (with_reducible refine H4.out.mono ?_)
   rintro e w1 ⟨rfl,hb1⟩
   go_wp2_with fail
   go_ret2
   exact⟨none,0,rfl,Nat.le_refl _,⟨av.nil _ _ _,by simp⟩,hb1.trans ((wall w1 _).mono hb1.size)⟩
end
theorem Keeps.cell_ {r b:Nat} {w w':World} (h:Keeps (fun x=>x=r) w w') (hb:b<w.heap.size) (hn:b≠r) (j:Nat):w'.cell? ⟨b,j,none⟩=w.cell? ⟨b,j,none⟩:=World.cell?_of_block (w:=w) (w':=w') (a:=⟨b,j,none⟩) (h.block b hb hn)
theorem wP {T:aF} {p:List Nm} (h:(eO T p).2=0):eO T p=aC T 0 p:=by
 unfold eO at h⊢
 by_cases h1:bM p≠0
 ·rw[if_pos h1]at h;exact absurd h h1
 ·rw[if_neg h1]
section
variable {F:Nat→Prop} {r:Nat} {T:aF}
set_option maxRecDepth 100000 in
set_option maxHeartbeats 8000000 in
theorem uQ {S:Nat→Prop} (a:Option Addr) (n c:Nat) (ls:List Nm) (w:World) (h:gX F w r T) (hT:dG T) (hS:aH S w a n (ls.map strOf)) (hc:n≤c) (jS:n≤1000000):
  Calls Tryz.prog 19 #[ptr r, .slice a n c] w (bC F w r (bB T ls).2 (.int .i64 (bB T ls).1)):=by
 have hE:(aV T).length≤1000000:=by have:=gQ hT;omega
 have H1:=Lib.hid (qB a n c ls w h hT hE hS)
 have H3:=Lib.hid (fun w1 (hb:Below w.heap.size w w1)=>j3 a n c ls w1 (h.below hb (Nat.le_refl _)) hT hE (hS.below hb (Nat.le_refl _)) hc jS)
 have H4:=Lib.hid (fun w1 (hb:Below w.heap.size w w1) id=>iV id w1 (h.below hb (Nat.le_refl _)) hT.tovw)
 have H5:=Lib.hid (fun w1 (hb:Below w.heap.size w w1) d nm=>iN d nm w1 (h.below hb (Nat.le_refl _)) hE)
 have HH:=Lib.hid h
 have HT:=Lib.hid hT
 have hr0:=h.low r h.own
 by_cases h1:(eO T ls).2=0
 ·have wQ:=wP h1
  rw[wQ]at h1 H1
  have hl2:aC T 0 ls=((aC T 0 ls).1,0):=Prod.ext rfl h1
  obtain⟨y,hy⟩:=Option.isSome_iff_exists.1 (fA hT ls 0 (dU hT) h1)
  have hue:gJ T ls=if y.kind=2 then 22 else 0:=by
   unfold gJ
   rw[wQ,if_neg (by rw[h1];simp),bI hy]
  obtain⟨id,hid⟩:∃id,id=(aC T 0 ls).1:=⟨_,rfl⟩
  rw[←hid]at hl2 hy
  rw[hl2]at H1
  simp only at H1
  have tF:=Lib.hid (fun w1 hb=>H4.out w1 hb id)
  have hnd:iI T id=jg id y:=by unfold iI;rw[hy]
  rw[hnd]at tF
  unfold jg at tF
  have hlk:=(hT.each id y hy).links
  by_cases h2:y.kind=2
  ·have hk1:(y.kind==2)=true:=by simpa using h2
   have HQ:Hid (bB T ls=(22,T)):=by
    show bB T ls=(22,T)
    unfold bB
    rw[hue,if_pos h2]
    rfl
   clear h hT hS hE H4 wQ h1 hl2 hue hid hnd hy h2
   go_enter Tryz.func19,Tryz.ntmps19
   go_wp2_with fail
   (with_reducible refine H1.out.mono ?_)
   rintro e w1 ⟨rfl,hb1⟩
   have HB1:=Lib.hid hb1
   clear hb1
   go_wp2_with fail
   (with_reducible refine(tF.out w1 HB1.out).mono ?_)
   rintro e w3 ⟨rfl,hb3⟩
   have HB3:=Lib.hid (HB1.out.trans (hb3.mono HB1.out.size))
   have hz3:=HB3.out.size
   clear hb3
   go_wp2_with fail
   go_ret
   exact bC.no HH.out (HB3.out.trans ((wall w3 _).mono HB3.out.size)) HQ.out
  ·have hk1:(y.kind==2)=false:=by simpa using h2
   have hls:ls≠[]:=fun e=>by
    rw[e]at hl2
    simp only[aC,Prod.mk.injEq,and_true]at hl2
    obtain⟨z,hz,PV⟩:=fG hT.root
    rw[←hl2,hz]at hy
    cases hy
    exact h2 PV
   obtain⟨d,x,n1,hp1,hp2,hx,hxk,hxn,hm,-⟩:=bS hl2 hls
   rw[hp1]at H3
   simp only at H3
   have IV:id≠d:=fun e=>by rw[e,hx]at hy;cases hy;exact h2 hxk
   have yc:=Lib.hid ((pV.of hT).cut d n1)
   obtain⟨k,hk,-⟩:=sK (pV.of hT) hx hxn
   have qZ:=Lib.hid (fun w1 hb=>H5.out w1 hb d n1)
   rw[hk]at qZ
   have CF:Hid (∀w4,Below w.heap.size w w4→Calls Tryz.prog 69 #[ptr r, .int .i64 k] w4 (bC F w4 r (aA T d n1) (.tuple #[]))):=fun w4 hb=>by
    obtain⟨k',hk',hc'⟩:=vJ d n1 id x w4 (h.below hb (Nat.le_refl _)) (pV.of hT) hx hxn
    rw[hk]at hk'
    have:k=k':=by omega
    rw[this]
    exact hc'
   have IQ:Hid (aj id (aA T d n1)=some y):=by
    show aj id (aA T d n1)=some y
    unfold aA
    rw[aQ,if_neg IV]
    exact hy
   have Qb:Hid (aj id (aX id (fun x:bF=>{x with links:=x.links+ -1}) (aA T d n1))=some {y with links:=y.links+ -1}):=by
    show aj id (aX id (fun x:bF=>{x with links:=x.links+ -1}) (aA T d n1))=some {y with links:=y.links+ -1}
    rw[aQ,if_pos rfl,IQ.out]
    rfl
   have HL2:Hid (pV (aX id (fun x:bF=>{x with links:=x.links+ -1}) (aA T d n1))):=yc.out.aX id (fun _=>by exact rfl)
   have hnil:y.names=[]:=(hT.each id y hy).file ((hT.each id y hy).kind.resolve_right h2)
   have HQ:Hid (bB T ls=(0,if y.links=1∧y.closed=true then bg id (aX id (fun x:bF=>{x with links:=x.links+ -1}) (aA T d n1))else aX id (fun x:bF=>{x with links:=x.links+ -1}) (aA T d n1))):=by
    show bB T ls=_
    unfold bB
    rw[hue,if_neg h2]
    refine Prod.ext rfl ?_
    show nu T ls=_
    unfold nu eP
    rw[hp1,←hid]
    have e0:(fun x:bF=>{x with links:=x.links-1})=fun x:bF=>{x with links:=x.links+ -1}:=rfl
    simp only[e0]
    rw[Qb.out]
    simp only
    by_cases hq:y.links=1∧y.closed=true
    ·rw[if_pos hq,if_pos ⟨by omega,hq.2⟩]
    ·rw[if_neg hq,if_neg (fun h=>hq ⟨by omega,h.2⟩)]
   clear h hT hS hE H4 H5 wQ h1 hl2 hue hid hnd hy h2 hls hp1 hp2 hx hxk hxn hm hk IV
   by_cases h3:y.links=1
   ·have e1:(y.links==1)=true:=by simpa using h3
    cases h4:y.closed with
    |true=>
     rw[if_pos ⟨h3,h4⟩]at HQ
     rw[h4]at tF
     have hcl:=Lib.hid h4
     clear h3 h4
     go_enter Tryz.func19,Tryz.ntmps19
     go_wp2_with fail
     (with_reducible refine H1.out.mono ?_)
     rintro e w1 ⟨rfl,hb1⟩
     have HB1:=Lib.hid hb1
     clear hb1
     go_wp2_with fail
     (with_reducible refine(tF.out w1 HB1.out).mono ?_)
     rintro e w3 ⟨rfl,hb3⟩
     have HB3:=Lib.hid (HB1.out.trans (hb3.mono HB1.out.size))
     have hz3:=HB3.out.size
     clear hb3
     go_wp2_with fail
     (with_reducible refine(H3.out _ (HB3.out.trans ((wall w3 _).mono HB3.out.size))).mono ?_)
     rintro e w4 ⟨rfl,hb4⟩
     have dX:=Lib.hid ((HB3.out.trans ((wall w3 _).mono HB3.out.size)).trans (hb4.mono (by simp;omega)))
     have q4:w4.cell? ⟨w3.heap.size,2,none⟩=some (.int .i64 y.links):=by rw[hb4.cell (p:=⟨w3.heap.size,2,none⟩) (by simp)];exact eU w3 _ _ 2
     have q5:w4.cell? ⟨w3.heap.size,5,none⟩=some (.bool true):=by rw[hb4.cell (p:=⟨w3.heap.size,5,none⟩) (by simp)];exact(eU w3 _ _ 5)
     have wO:w3.heap.size<w4.heap.size:=by have:=hb4.size;simp at this;omega
     obtain⟨qb,BJ⟩:∃qb,qb=w3.heap.size:=⟨_,rfl⟩
     have hqr:qb≠r:=by omega
     rw[←BJ]at q4 q5 wO⊢
     have HZ:=Lib.hid BJ
     clear hb4 BJ hz3
     go_wp2_with fail
     (with_reducible refine(qZ.out w4 dX.out).mono ?_)
     rintro e w5 ⟨rfl,rfl⟩
     go_wp2_with fail
     (with_reducible refine(CF.out w4 dX.out).mono ?_)
     rintro e w5 KA
     obtain⟨rfl,rM,xS⟩:=KA
     have Mr:w5.cell? ⟨qb,2,none⟩=some (.int .i64 y.links):=(rM.cell_ wO hqr 2).trans q4
     have Ms:w5.cell? ⟨qb,5,none⟩=some (.bool true):=(rM.cell_ wO hqr 5).trans q5
     have CG:qb<w5.heap.size:=by have:=rM.size;omega
     have CB:=Lib.hid (qE id (-1) y w5 xS yc.out IQ.out (by omega) hlk)
     have yO:Hid (bC F w4 r (aA T d n1) (.tuple #[]) (.returned (.tuple #[])) w5):=⟨rfl,rM,xS⟩
     clear rM xS q4 q5
     go_wp2_with fail
     (with_reducible refine CB.out.mono ?_)
     rintro e w6 lu
     obtain⟨rfl,zf,oo⟩:=lu
     have q4:w6.cell? ⟨qb,2,none⟩=some (.int .i64 y.links):=(zf.cell_ CG hqr 2).trans Mr
     have q5:w6.cell? ⟨qb,5,none⟩=some (.bool true):=(zf.cell_ CG hqr 5).trans Ms
     have Vi:qb<w6.heap.size:=by have:=zf.size;omega
     have AA:=Lib.hid (pW id _ w6 oo HL2.out.sorted HL2.out.len Qb.out hnil)
     have g_:Hid (bC (Grow F w4 w5) w5 r (aX id (fun x=>{x with links:=x.links+ -1}) (aA T d n1)) (.tuple #[]) (.returned (.tuple #[])) w6):=⟨rfl,zf,oo⟩
     clear zf oo Mr Ms
     go_wp2_with fail
     (with_reducible refine AA.out.mono ?_)
     rintro e w7 IW
     have Kz:=Lib.hid IW
     obtain rfl:=IW.1
     clear IW
     go_wp2_with fail
     go_ret
     rw[HQ.out]
     have Xl:=yO.out.trans (HH.out.below dX.out (Nat.le_refl _)).low g_.out
     exact(dh.behind HH.out.low dX.out (yO.out.trans (HH.out.below dX.out (Nat.le_refl _)).low (g_.out.trans yO.out.2.2.low Kz.out))).val _
    |false=>
     rw[if_neg (by rw[h4];simp)]at HQ
     rw[h4]at tF
     clear h3 h4
     go_enter Tryz.func19,Tryz.ntmps19
     go_wp2_with fail
     (with_reducible refine H1.out.mono ?_)
     rintro e w1 ⟨rfl,hb1⟩
     have HB1:=Lib.hid hb1
     clear hb1
     go_wp2_with fail
     (with_reducible refine(tF.out w1 HB1.out).mono ?_)
     rintro e w3 ⟨rfl,hb3⟩
     have HB3:=Lib.hid (HB1.out.trans (hb3.mono HB1.out.size))
     have hz3:=HB3.out.size
     clear hb3
     go_wp2_with fail
     (with_reducible refine(H3.out _ (HB3.out.trans ((wall w3 _).mono HB3.out.size))).mono ?_)
     rintro e w4 ⟨rfl,hb4⟩
     have dX:=Lib.hid ((HB3.out.trans ((wall w3 _).mono HB3.out.size)).trans (hb4.mono (by simp;omega)))
     have q4:w4.cell? ⟨w3.heap.size,2,none⟩=some (.int .i64 y.links):=by rw[hb4.cell (p:=⟨w3.heap.size,2,none⟩) (by simp)];exact eU w3 _ _ 2
     have q5:w4.cell? ⟨w3.heap.size,5,none⟩=some (.bool false):=by rw[hb4.cell (p:=⟨w3.heap.size,5,none⟩) (by simp)];exact eU w3 _ _ 5
     have wO:w3.heap.size<w4.heap.size:=by have:=hb4.size;simp at this;omega
     obtain⟨qb,BJ⟩:∃qb,qb=w3.heap.size:=⟨_,rfl⟩
     have hqr:qb≠r:=by omega
     rw[←BJ]at q4 q5 wO⊢
     have HZ:=Lib.hid BJ
     clear hb4 BJ hz3
     go_wp2_with fail
     (with_reducible refine(qZ.out w4 dX.out).mono ?_)
     rintro e w5 ⟨rfl,rfl⟩
     go_wp2_with fail
     (with_reducible refine(CF.out w4 dX.out).mono ?_)
     rintro e w5 KA
     obtain⟨rfl,rM,xS⟩:=KA
     have Mr:w5.cell? ⟨qb,2,none⟩=some (.int .i64 y.links):=(rM.cell_ wO hqr 2).trans q4
     have Ms:w5.cell? ⟨qb,5,none⟩=some (.bool false):=(rM.cell_ wO hqr 5).trans q5
     have CG:qb<w5.heap.size:=by have:=rM.size;omega
     have CB:=Lib.hid (qE id (-1) y w5 xS yc.out IQ.out (by omega) hlk)
     have yO:Hid (bC F w4 r (aA T d n1) (.tuple #[]) (.returned (.tuple #[])) w5):=⟨rfl,rM,xS⟩
     clear rM xS q4 q5
     go_wp2_with fail
     (with_reducible refine CB.out.mono ?_)
     rintro e w6 lu
     obtain⟨rfl,zf,oo⟩:=lu
     have q4:w6.cell? ⟨qb,2,none⟩=some (.int .i64 y.links):=(zf.cell_ CG hqr 2).trans Mr
     have q5:w6.cell? ⟨qb,5,none⟩=some (.bool false):=(zf.cell_ CG hqr 5).trans Ms
     have Vi:qb<w6.heap.size:=by have:=zf.size;omega
     have g_:Hid (bC (Grow F w4 w5) w5 r (aX id (fun x=>{x with links:=x.links+ -1}) (aA T d n1)) (.tuple #[]) (.returned (.tuple #[])) w6):=⟨rfl,zf,oo⟩
     clear zf oo Mr Ms
     go_wp2_with fail
     go_ret
     rw[HQ.out]
     exact(dh.behind HH.out.low dX.out (yO.out.trans (HH.out.below dX.out (Nat.le_refl _)).low g_.out)).val _
   ·have e1:(y.links==1)=false:=by simpa using h3
    rw[if_neg (fun h=>h3 h.1)]at HQ
    clear h3
    go_enter Tryz.func19,Tryz.ntmps19
    go_wp2_with fail
    (with_reducible refine H1.out.mono ?_)
    rintro e w1 ⟨rfl,hb1⟩
    have HB1:=Lib.hid hb1
    clear hb1
    go_wp2_with fail
    (with_reducible refine(tF.out w1 HB1.out).mono ?_)
    rintro e w3 ⟨rfl,hb3⟩
    have HB3:=Lib.hid (HB1.out.trans (hb3.mono HB1.out.size))
    have hz3:=HB3.out.size
    clear hb3
    go_wp2_with fail
    (with_reducible refine(H3.out _ (HB3.out.trans ((wall w3 _).mono HB3.out.size))).mono ?_)
    rintro e w4 ⟨rfl,hb4⟩
    have dX:=Lib.hid ((HB3.out.trans ((wall w3 _).mono HB3.out.size)).trans (hb4.mono (by simp;omega)))
    have q4:w4.cell? ⟨w3.heap.size,2,none⟩=some (.int .i64 y.links):=by rw[hb4.cell (p:=⟨w3.heap.size,2,none⟩) (by simp)];exact eU w3 _ _ 2
    have q5:w4.cell? ⟨w3.heap.size,5,none⟩=some (.bool y.closed):=by rw[hb4.cell (p:=⟨w3.heap.size,5,none⟩) (by simp)];exact eU w3 _ _ 5
    have wO:w3.heap.size<w4.heap.size:=by have:=hb4.size;simp at this;omega
    obtain⟨qb,BJ⟩:∃qb,qb=w3.heap.size:=⟨_,rfl⟩
    have hqr:qb≠r:=by omega
    rw[←BJ]at q4 q5 wO⊢
    have HZ:=Lib.hid BJ
    clear hb4 BJ hz3
    go_wp2_with fail
    (with_reducible refine(qZ.out w4 dX.out).mono ?_)
    rintro e w5 ⟨rfl,rfl⟩
    go_wp2_with fail
    (with_reducible refine(CF.out w4 dX.out).mono ?_)
    rintro e w5 KA
    obtain⟨rfl,rM,xS⟩:=KA
    have Mr:w5.cell? ⟨qb,2,none⟩=some (.int .i64 y.links):=(rM.cell_ wO hqr 2).trans q4
    have Ms:w5.cell? ⟨qb,5,none⟩=some (.bool y.closed):=(rM.cell_ wO hqr 5).trans q5
    have CG:qb<w5.heap.size:=by have:=rM.size;omega
    have CB:=Lib.hid (qE id (-1) y w5 xS yc.out IQ.out (by omega) hlk)
    have yO:Hid (bC F w4 r (aA T d n1) (.tuple #[]) (.returned (.tuple #[])) w5):=⟨rfl,rM,xS⟩
    clear rM xS q4 q5
    go_wp2_with fail
    (with_reducible refine CB.out.mono ?_)
    rintro e w6 lu
    obtain⟨rfl,zf,oo⟩:=lu
    have q4:w6.cell? ⟨qb,2,none⟩=some (.int .i64 y.links):=(zf.cell_ CG hqr 2).trans Mr
    have q5:w6.cell? ⟨qb,5,none⟩=some (.bool y.closed):=(zf.cell_ CG hqr 5).trans Ms
    have Vi:qb<w6.heap.size:=by have:=zf.size;omega
    have g_:Hid (bC (Grow F w4 w5) w5 r (aX id (fun x=>{x with links:=x.links+ -1}) (aA T d n1)) (.tuple #[]) (.returned (.tuple #[])) w6):=⟨rfl,zf,oo⟩
    clear zf oo Mr Ms
    go_wp2_with fail
    go_ret
    rw[HQ.out]
    exact(dh.behind HH.out.low dX.out (yO.out.trans (HH.out.below dX.out (Nat.le_refl _)).low g_.out)).val _
 ·have HQ:Hid (bB T ls=((eO T ls).2,T)):=by
   show bB T ls=_
   have he:gJ T ls=(eO T ls).2:=by unfold gJ;rw[if_pos h1]
   unfold bB
   rw[he,if_neg h1]
  generalize eO T ls=lk at*
  obtain⟨id,e1⟩:=lk
  simp only at h1 H1 HQ
  have hne:(e1==0)=false:=by simpa using h1
  have hne2:(e1 !=0)=true:=by simpa using h1
  clear h hT hS hE h1
  go_enter Tryz.func19,Tryz.ntmps19
  go_wp2_with fail
  (with_reducible refine H1.out.mono ?_)
  rintro e w1 ⟨rfl,hb1⟩
  have HB1:=Lib.hid hb1
  clear hb1
  go_wp2_with fail
  go_ret
  exact bC.no HH.out HB1.out HQ.out
end
end Go.Proofs.YtohpcppeajijnaaGreat
