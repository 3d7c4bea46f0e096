/- The reference: Link. The reference: List. The reference: Unlink, Rmdir. -/
import Derived.Test.YtmabllemjkcobaaGreatM24
namespace Go.Proofs.YtmabllemjkcobaaGreat
open Go.ChangeShapes Go.WideShapes Go.ChangeAt Go.RowKit
set_option linter.unusedVariables false
set_option linter.unusedSimpArgs false
theorem K9 {T:aG} {p q:List Nm} {v:Int} (h:ku T p q=v) (hv:v≠0):eD T p q=(v,T):=by
 unfold eD
 rw[h,if_neg hv]
theorem IG {T:aG} {p q:List Nm} (h:ku T p q=0):eD T p q=(0,zx T p q):=by
 unfold eD
 rw[h,if_pos rfl]
theorem fU (w:World) (cs:Array Value) (t:TypeId) (j:Nat):(w.alloc (.cells cs t)).cell? ⟨w.heap.size,j,none⟩=cs[j]? :=by
 have:=(MapKept.heap_alloc w (.cells cs t)).1
 unfold World.cell?
 simp only[this]
 rfl
section
variable {F:Nat→Prop} {r:Nat} {T:aG}
theorem bX.no {w w':World} {v:Int} (h:iq F w r T) (hb:Below w.heap.size w w') {q:Int×aG} (hq:q=(v,T)):bX F w r q.2 (.int .i64 q.1) (.returned (.int .i64 v)) w':=by
 rw[hq]
 exact dY.same h hb
set_option maxRecDepth 100000 in
set_option maxHeartbeats 8000000 in
theorem CX {S S':Nat→Prop} (a:Option Addr) (n c:Nat) (ls:List Nm) (a':Option Addr) (n' c':Nat) (ls':List Nm) (w:World) (h:iq F w r T) (hT:dX T) (hS:aK S w a n (ls.map strOf)) (hS':aK S' w a' n' (ls'.map strOf)) (hc':n'≤c') (xA:n'≤1000000):
  Calls Tryz.prog 18 #[ptr r, .slice a n c, .slice a' n' c'] w (bX F w r (eD T ls ls').2 (.int .i64 (eD T ls ls').1)):=by
 have hE:(aT T).length≤1000000:=by have:=gQ hT;omega
 have H1:=Lib.hid (yt a n c ls a' n' c' ls' w hS hS')
 have H2:=Lib.hid (fun w1 (hb:Below w.heap.size w w1)=>tO a n c ls w1 (h.below hb (Nat.le_refl _)) hT hE (hS.below hb (Nat.le_refl _)))
 have H3:=Lib.hid (fun w1 (hb:Below w.heap.size w w1)=>lF a' n' c' ls' w1 (h.below hb (Nat.le_refl _)) hT hE (hS'.below hb (Nat.le_refl _)) hc' xA)
 have H4:=Lib.hid (fun w1 (hb:Below w.heap.size w w1) id=>jA id w1 (h.below hb (Nat.le_refl _)) hT.toyQ)
 have H5:=Lib.hid (fun w1 (hb:Below w.heap.size w w1) d nm=>jG d nm w1 (h.below hb (Nat.le_refl _)) hE)
 have HH:=Lib.hid h
 have HT:=Lib.hid hT
 have HB:=Lib.hid (fun(v:Int) (hv:v≠0) (he:ku T ls ls'=v)=>K9 he hv)
 have HG:=Lib.hid (IG (T:=T) (p:=ls) (q:=ls'))
 have hr0:=h.low r h.own
 unfold ku at HB HG
 have CF:=Lib.hid (fP hT ls 0 (eF hT))
 have Um:=Lib.hid (ig (p:=ls') hT)
 unfold zx at HG
 generalize je ls ls'=f0 at H1 HB HG
 generalize aH T 0 ls=lk at H2 HB HG CF
 generalize aI T ls'=pl at H3 HB HG Um
 obtain⟨id,e1⟩:=lk
 obtain⟨d2,n2,e2⟩:=pl
 simp only at H2 H3 HB HG CF Um
 generalize eD T ls ls'=res at HB HG⊢
 clear h hT hS hS' hE
 by_cases h0:f0=0
 ·subst h0
  by_cases h1:e1=0
  ·subst h1
   obtain⟨y,hy⟩:=Option.isSome_iff_exists.1 (CF.out rfl)
   have wQ:=Lib.hid (fun w1 hb=>H4.out w1 hb id)
   have hnd:jf T id=jE id y:=by unfold jf;rw[hy]
   rw[hnd]at wQ
   unfold jE at wQ
   have hky:bO T id=y.kind:=bQ hy
   have Zr:qI T id=y.links:=by unfold qI;rw[hy]
   rw[hky,Zr]at HB
   rw[hky,Zr]at HG
   have HY:=Lib.hid hy
   have hlk:=(HT.out.each id y hy).links
   clear hnd hky Zr hy H4
   by_cases h2:y.kind=2
   ·have hk1:(y.kind==2)=true:=by simpa using h2
    have HQ:=Lib.hid (HB.out 22 (by omega) (by rw[if_neg (by simp),if_neg (by simp),if_pos h2]))
    clear h2
    go_enter Tryz.func18,Tryz.ntmps18
    go_wp2_with fail
    (with_reducible refine H1.out.mono ?_)
    rintro e w1 ⟨rfl,hb1⟩
    have HB1:=Lib.hid hb1
    clear hb1
    go_wp2_with fail
    (with_reducible refine(H2.out w1 HB1.out).mono ?_)
    rintro e w2 ⟨rfl,hb2⟩
    have HB2:=Lib.hid (HB1.out.trans (hb2.mono HB1.out.size))
    clear hb2
    go_wp2_with fail
    (with_reducible refine(wQ.out w2 HB2.out).mono ?_)
    rintro e w3 ⟨rfl,hb3⟩
    have HB3:=Lib.hid (HB2.out.trans (hb3.mono HB2.out.size))
    have hz3:=HB3.out.size
    clear hb3
    go_wp2_with fail
    go_ret
    exact bX.no HH.out (HB3.out.trans ((wall w3 _).mono HB3.out.size)) HQ.out
   ·have hk1:(y.kind==2)=false:=by simpa using h2
    by_cases h3:e2=0
    ·subst h3
     obtain⟨x,hx,hxk,hxm⟩:=Um.out rfl
     have hnm:aX T d2=x.names:=dK hx
     rw[hnm]at HB
     rw[hnm]at HG
     have uF:=Lib.hid (fun w1 hb=>H5.out w1 hb d2 n2)
     cases hn:aj n2 x.names with
     |some j=>
      obtain⟨m,hm1,hm2⟩:=qh HT.out.toyQ hx hn
      rw[hm1]at uF
      have m0:¬(m:Int)<0:=by omega
      have m1:(0:Int)≤m:=by omega
      have HQ:=Lib.hid (HB.out 21 (by omega) (by rw[if_neg (by simp),if_neg (by simp),if_neg h2,if_neg (by simp),hn];rfl))
      clear h2 hn hx hxk hxm hnm hm1 hm2
      go_enter Tryz.func18,Tryz.ntmps18
      go_wp2_with fail
      (with_reducible refine H1.out.mono ?_)
      rintro e w1 ⟨rfl,hb1⟩
      have HB1:=Lib.hid hb1
      clear hb1
      go_wp2_with fail
      (with_reducible refine(H2.out w1 HB1.out).mono ?_)
      rintro e w2 ⟨rfl,hb2⟩
      have HB2:=Lib.hid (HB1.out.trans (hb2.mono HB1.out.size))
      clear hb2
      go_wp2_with fail
      (with_reducible refine(wQ.out w2 HB2.out).mono ?_)
      rintro e w3 ⟨rfl,hb3⟩
      have HB3:=Lib.hid (HB2.out.trans (hb3.mono HB2.out.size))
      have hz3:=HB3.out.size
      clear hb3
      go_wp2_with fail
      (with_reducible refine(H3.out _ (HB3.out.trans ((wall w3 _).mono HB3.out.size))).mono ?_)
      rintro e w4 ⟨rfl,hb4⟩
      have eO:=Lib.hid ((HB3.out.trans ((wall w3 _).mono HB3.out.size)).trans (hb4.mono (by simp;omega)))
      have q4:w4.cell? ⟨w3.heap.size,2,none⟩=some (.int .i64 y.links):=by rw[hb4.cell (p:=⟨w3.heap.size,2,none⟩) (by simp)];exact fU w3 _ _ 2
      have z_:w3.heap.size<w4.heap.size:=by have:=hb4.size;simp at this;omega
      clear hb4
      go_wp2_with fail
      (with_reducible refine(uF.out w4 eO.out).mono ?_)
      rintro e w5 ⟨rfl,rfl⟩
      go_wp2_with fail
      go_ret
      exact bX.no HH.out eO.out HQ.out
     |none=>
      rw[sj HT.out.sorted hx hn]at uF
      by_cases h4:64≤y.links
      ·have HQ:=Lib.hid (HB.out 4 (by omega) (by rw[if_neg (by simp),if_neg (by simp),if_neg h2,if_neg (by simp),hn,if_neg (by simp),if_pos h4]))
       have hd4:decide ((64:Int)≤y.links)=true:=by simpa using h4
       clear h2 hn hx hxk hxm hnm
       go_enter Tryz.func18,Tryz.ntmps18
       go_wp2_with fail
       (with_reducible refine H1.out.mono ?_)
       rintro e w1 ⟨rfl,hb1⟩
       have HB1:=Lib.hid hb1
       clear hb1
       go_wp2_with fail
       (with_reducible refine(H2.out w1 HB1.out).mono ?_)
       rintro e w2 ⟨rfl,hb2⟩
       have HB2:=Lib.hid (HB1.out.trans (hb2.mono HB1.out.size))
       clear hb2
       go_wp2_with fail
       (with_reducible refine(wQ.out w2 HB2.out).mono ?_)
       rintro e w3 ⟨rfl,hb3⟩
       have HB3:=Lib.hid (HB2.out.trans (hb3.mono HB2.out.size))
       have hz3:=HB3.out.size
       clear hb3
       go_wp2_with fail
       (with_reducible refine(H3.out _ (HB3.out.trans ((wall w3 _).mono HB3.out.size))).mono ?_)
       rintro e w4 ⟨rfl,hb4⟩
       have eO:=Lib.hid ((HB3.out.trans ((wall w3 _).mono HB3.out.size)).trans (hb4.mono (by simp;omega)))
       have q4:w4.cell? ⟨w3.heap.size,2,none⟩=some (.int .i64 y.links):=by rw[hb4.cell (p:=⟨w3.heap.size,2,none⟩) (by simp)];exact fU w3 _ _ 2
       have z_:w3.heap.size<w4.heap.size:=by have:=hb4.size;simp at this;omega
       clear hb4
       go_wp2_with fail
       (with_reducible refine(uF.out w4 eO.out).mono ?_)
       rintro e w5 ⟨rfl,rfl⟩
       go_wp2_with fail
       go_ret
       exact bX.no HH.out eO.out HQ.out
      ·have HQ:=Lib.hid (HG.out (by rw[if_neg (by simp),if_neg (by simp),if_neg h2,if_neg (by simp),hn,if_neg (by simp),if_neg h4]))
       have hd4:decide ((64:Int)≤y.links)=false:=by simpa using h4
       have hid:id≠d2:=fun e=>by have:=HY.out;rw[e,hx]at this;cases this;exact h2 hxk
       have HL:=Lib.hid (su.of HT.out)
       have HAD:=Lib.hid (fun w4 (hb:Below w.heap.size w w4)=>vV d2 n2 id x w4 (HH.out.below hb (Nat.le_refl _)) HL.out hx hn)
       have K_:Hid (aj id (setName T d2 n2 id)=some y):=by
        show aj id (setName T d2 n2 id)=some y
        unfold setName
        rw[bq,if_neg hid]
        exact HY.out
       have BN:Hid (su (setName T d2 n2 id)):=HL.out.put hx hn (gQ HT.out) id
       clear h2 hn hx hxk hxm hnm h4 hid
       go_enter Tryz.func18,Tryz.ntmps18
       go_wp2_with fail
       (with_reducible refine H1.out.mono ?_)
       rintro e w1 ⟨rfl,hb1⟩
       have HB1:=Lib.hid hb1
       clear hb1
       go_wp2_with fail
       (with_reducible refine(H2.out w1 HB1.out).mono ?_)
       rintro e w2 ⟨rfl,hb2⟩
       have HB2:=Lib.hid (HB1.out.trans (hb2.mono HB1.out.size))
       clear hb2
       go_wp2_with fail
       (with_reducible refine(wQ.out w2 HB2.out).mono ?_)
       rintro e w3 ⟨rfl,hb3⟩
       have HB3:=Lib.hid (HB2.out.trans (hb3.mono HB2.out.size))
       have hz3:=HB3.out.size
       clear hb3
       go_wp2_with fail
       (with_reducible refine(H3.out _ (HB3.out.trans ((wall w3 _).mono HB3.out.size))).mono ?_)
       rintro e w4 ⟨rfl,hb4⟩
       have eO:=Lib.hid ((HB3.out.trans ((wall w3 _).mono HB3.out.size)).trans (hb4.mono (by simp;omega)))
       have q4:w4.cell? ⟨w3.heap.size,2,none⟩=some (.int .i64 y.links):=by rw[hb4.cell (p:=⟨w3.heap.size,2,none⟩) (by simp)];exact fU w3 _ _ 2
       have z_:w3.heap.size<w4.heap.size:=by have:=hb4.size;simp at this;omega
       clear hb4
       go_wp2_with fail
       (with_reducible refine(uF.out w4 eO.out).mono ?_)
       rintro e w5 ⟨rfl,rfl⟩
       go_wp2_with fail
       (with_reducible refine(HAD.out w4 eO.out).mono ?_)
       rintro e w5 QG
       obtain⟨rfl,u7,Bw⟩:=QG
       have G9:=Lib.hid (tX id 1 y w5 Bw BN.out K_.out (by omega) hlk)
       have Cy:Hid (bX F w4 r (setName T d2 n2 id) (.tuple #[]) (.returned (.tuple #[])) w5):=⟨rfl,u7,Bw⟩
       clear u7 Bw
       go_wp2_with fail
       (with_reducible refine G9.out.mono ?_)
       rintro e w6 nC
       have iY:=Lib.hid nC
       obtain rfl:=nC.1
       clear nC
       go_wp2_with fail
       go_ret
       rw[HQ.out]
       exact(dY.behind HH.out.low eO.out (Cy.out.trans (HH.out.below eO.out (Nat.le_refl _)).low iY.out)).val _
    ·have HQ:=Lib.hid (HB.out e2 h3 (by rw[if_neg (by simp),if_neg (by simp),if_neg h2,if_pos h3]))
     have hne:(e2==0)=false:=by simpa using h3
     have hne2:(e2 !=0)=true:=by simpa using h3
     clear h2 h3
     go_enter Tryz.func18,Tryz.ntmps18
     go_wp2_with fail
     (with_reducible refine H1.out.mono ?_)
     rintro e w1 ⟨rfl,hb1⟩
     have HB1:=Lib.hid hb1
     clear hb1
     go_wp2_with fail
     (with_reducible refine(H2.out w1 HB1.out).mono ?_)
     rintro e w2 ⟨rfl,hb2⟩
     have HB2:=Lib.hid (HB1.out.trans (hb2.mono HB1.out.size))
     clear hb2
     go_wp2_with fail
     (with_reducible refine(wQ.out w2 HB2.out).mono ?_)
     rintro e w3 ⟨rfl,hb3⟩
     have HB3:=Lib.hid (HB2.out.trans (hb3.mono HB2.out.size))
     have hz3:=HB3.out.size
     clear hb3
     go_wp2_with fail
     (with_reducible refine(H3.out _ (HB3.out.trans ((wall w3 _).mono HB3.out.size))).mono ?_)
     rintro e w4 ⟨rfl,hb4⟩
     have eO:=Lib.hid ((HB3.out.trans ((wall w3 _).mono HB3.out.size)).trans (hb4.mono (by simp;omega)))
     have q4:w4.cell? ⟨w3.heap.size,2,none⟩=some (.int .i64 y.links):=by rw[hb4.cell (p:=⟨w3.heap.size,2,none⟩) (by simp)];exact fU w3 _ _ 2
     have z_:w3.heap.size<w4.heap.size:=by have:=hb4.size;simp at this;omega
     clear hb4
     go_wp2_with fail
     go_ret
     exact bX.no HH.out eO.out HQ.out
  ·have HQ:=Lib.hid (HB.out e1 h1 (by rw[if_neg (by simp),if_pos h1]))
   have hne:(e1==0)=false:=by simpa using h1
   have hne2:(e1 !=0)=true:=by simpa using h1
   clear h1
   go_enter Tryz.func18,Tryz.ntmps18
   go_wp2_with fail
   (with_reducible refine H1.out.mono ?_)
   rintro e w1 ⟨rfl,hb1⟩
   have HB1:=Lib.hid hb1
   clear hb1
   go_wp2_with fail
   (with_reducible refine(H2.out w1 HB1.out).mono ?_)
   rintro e w2 ⟨rfl,hb2⟩
   have HB2:=Lib.hid (HB1.out.trans (hb2.mono HB1.out.size))
   clear hb2
   go_wp2_with fail
   go_ret
   exact bX.no HH.out HB2.out HQ.out
 ·have HQ:=Lib.hid (HB.out f0 h0 (if_pos h0))
  have hne:(f0==0)=false:=by simpa using h0
  have hne2:(f0 !=0)=true:=by simpa using h0
  clear h0
  go_enter Tryz.func18,Tryz.ntmps18
  go_wp2_with fail
  (with_reducible refine H1.out.mono ?_)
  rintro e w1 ⟨rfl,hb1⟩
  have HB1:=Lib.hid hb1
  clear hb1
  go_wp2_with fail
  go_ret
  exact bX.no HH.out HB1.out HQ.out
end
theorem Ej {id:Int}:∀{T:aG} {x:bW},aS g_ T→aj id T=some x→(aT T).filter (fun e=>decide (e.1=id))=x.names.map fun e=>(id,e.1,e.2)
 |[],x,_,hx=>by cases hx
 |y::r,x,hs,hx=>by
  obtain⟨h1,h2⟩:=List.pairwise_cons.1 hs
  rw[fZ]at hx
  rw[eY,List.filter_append]
  by_cases hy:y.1=id
  ·rw[if_pos hy]at hx
   cases hx
   have e1:(jQ y).filter (fun e=>decide (e.1=id))=jQ y:=by
    rw[List.filter_eq_self]
    intro e he
    obtain⟨z,_,rfl⟩:=List.mem_map.1 he
    simp[hy]
   have e2:(aT r).filter (fun e=>decide (e.1=id))=[]:=by
    rw[List.filter_eq_nil_iff]
    intro e he
    obtain⟨q,hq,hk,_⟩:=ze he
    have:=h1 q hq
    simp only[decide_eq_true_eq]at this
    simp only[decide_eq_true_eq]
    omega
   rw[e1,e2,List.append_nil]
   unfold jQ
   rw[hy]
  ·rw[if_neg hy]at hx
   have e1:(jQ y).filter (fun e=>decide (e.1=id))=[]:=by
    rw[List.filter_eq_nil_iff]
    intro e he
    obtain⟨z,_,rfl⟩:=List.mem_map.1 he
    simp[hy]
   rw[e1,List.nil_append,Ej h2 hx]
def FM (E:List iT) (id:Int) (k:Nat):List Nm:=((E.take k).filter fun e=>decide (e.1=id)).map fun e=>e.2.1
def QH (E:List iT) (id:Int) (k:Nat):List Value:=(FM E id k).map fun n=> .string (strOf n)
theorem QI {E:List iT} {id:Int} {k:Nat} {e:iT} (hx:E[k]? =some e) (he:e.1=id):FM E id (k+1)=FM E id k++[e.2.1]:=by
 obtain⟨hk,h⟩:=List.getElem?_eq_some_iff.1 hx
 unfold FM
 rw[List.take_succ_eq_append_getElem hk,List.filter_append,h,List.map_append]
 simp[he]
theorem Un {E:List iT} {id:Int} {k:Nat} {e:iT} (hx:E[k]? =some e) (he:e.1≠id):FM E id (k+1)=FM E id k:=by
 obtain⟨hk,h⟩:=List.getElem?_eq_some_iff.1 hx
 unfold FM
 rw[List.take_succ_eq_append_getElem hk,List.filter_append,h,List.map_append]
 simp[he]
theorem QJ (E:List iT) (id:Int) (k:Nat):(FM E id k).length≤k:=by
 unfold FM
 rw[List.length_map]
 exact Nat.le_trans (List.length_filter_le _ _) (List.length_take_le _ _)
theorem J9:(Tryz.prog.info? 9).map (fun i=>(i.zero,i.size,i.bytes))=some (some (.string ByteArray.empty),1,16):=by kernel_rfl
def vW (w0:World) (B:Nat) (E:List iT) (id:Int) (k:Nat) (v:Value) (wr:World):Prop:=
 wr.ownsRow B 9 1 v (FM E id k).length (QH E id k)∧Below B w0 wr∧B≤wr.heap.size
theorem La {w0 wr w3:World} {B:Nat} {E:List iT} {id:Int} {k m c:Nat} {nm:Nm} {v:Value} {A:Option Addr} {o:Obj} (hp:FM E id (k+1)=FM E id k++[nm]) (hm:m=(FM E id k).length) (ho3:w3.ownsRow B 9 1 (.slice A (m+1) c) (m+1) (QH E id k++[.string (strOf nm)])) (ho:wr.ownsRow B 9 1 v m (QH E id k)) (hg:(wr.alloc o).grownBy w3 v.ownBlock) (hB:Below B w0 wr) (G_:B≤wr.heap.size):vW w0 B E id (k+1) (.slice A (m+1) c) w3:=by
 have hs:=hg.size
 have e1:(FM E id (k+1)).length=m+1:=by rw[hp,List.length_append,hm];rfl
 have e2:QH E id (k+1)=QH E id k++[.string (strOf nm)]:=by unfold QH;rw[hp,List.map_append];rfl
 unfold vW
 rw[e1,e2]
 refine⟨ho3,(hB.alloc G_ o).trans ⟨hg.os,hg.tape,hg.output,hg.size,fun b hb=>hg.block b (by simp;omega) (fun e=>by have:=gB ho b e.symm;omega)⟩,?_⟩
 rw[World.size_alloc]at hs
 omega
theorem Ob {w w2 wr:World} {E:List iT} {id:Int} {k:Nat} {v:Value} {L:List Nm} (h:vW w2 w2.heap.size E id k v wr) (hL:FM E id k=L) (hb:Below w.heap.size w w2) (hs:∀l∈L,l.length≤maxLen):vN w (L,0) (.returned (.tuple #[v, .int .i64 0])) wr:=by
 obtain⟨ho,hB,G_⟩:=h
 have hsz:=hb.size
 unfold QH at ho
 rw[hL]at ho
 obtain⟨a,c,rfl,hlc⟩:=jo ho
 obtain⟨_,hrow⟩:=aC.mM ho
 refine⟨a,c,rfl,hlc,⟨?_,fun s hs'=> ?_⟩,hb.trans (hB.mono hsz)⟩
 ·rw[List.map_map]
  exact hrow.mono fun b hb=>⟨by omega,hb.2⟩
 ·obtain⟨l,hl,rfl⟩:=List.mem_map.1 hs'
  rw[fV]
  exact hs l hl
section
variable {F:Nat→Prop} {r:Nat} {T:aG}
set_option maxRecDepth 100000 in
set_option maxHeartbeats 8000000 in
theorem xB (id:Int) (w:World) (h:iq F w r T) (hT:dX T):Calls Tryz.prog 73 #[ptr r, .int .i64 id] w (vN w (mX T id)):=by
 have hE:=gQ hT
 have H4:=Lib.hid (jA id w h hT.toyQ)
 have hr0:=h.low r h.own
 unfold jf at H4
 unfold mX
 cases hx:aj id T with
 |none=>
  rw[hx]at H4
  clear h hx hT
  go_enter Tryz.func73,Tryz.ntmps73
  go_wp2_with fail
  (with_reducible refine H4.out.mono ?_)
  rintro e w1 ⟨rfl,hb1⟩
  go_wp2_with fail
  go_ret2
  exact⟨none,0,rfl,Nat.le_refl _,⟨aC.nil _ _ _,by simp⟩,hb1.trans ((wall w1 _).mono hb1.size)⟩
 |some x=>
  rw[hx]at H4
  simp only at H4
  unfold jE at H4
  by_cases hk:x.kind=2
  ·rw[hk]at H4
   simp only[if_pos hk]
   obtain⟨i0,hi,hz,hz1,hz2⟩:=info_parts J9
   have HI:=Lib.hid (And.intro hi (And.intro hz (And.intro hz1 hz2)))
   have HN:=Lib.hid (Ej hT.sorted hx)
   have HH:=Lib.hid (fun w1 (hb:Below w.heap.size w w1)=>(h.below hb (Nat.le_refl _)).ent)
   have hgood:=Lib.hid ((hT.each id x hx).good)
   obtain⟨n,hn⟩:∃n,n=(aT T).length:=⟨_,rfl⟩
   generalize aT T=E at*
   rw[←hn]at hE
   have HL:=Lib.hid hn
   clear h hx hT hk hi hz hz1 hz2 hn
   go_enter Tryz.func73,Tryz.ntmps73
   go_wp2_with fail
   (with_reducible refine H4.out.mono ?_)
   rintro e w1 ⟨rfl,hb1⟩
   have HB1:=Lib.hid (hb1.trans ((wall w1 (.cells #[.int .i64 id, .int .i64 2, .int .i64 x.links, .int .i64 x.b.length, .int .u64 x.aQ, .bool x.closed] 90)).mono hb1.size))
   have hs1:=hb1.size
   clear hb1
   go_wp2_with fail
   generalize (w1.alloc (.cells #[.int .i64 id, .int .i64 2, .int .i64 x.links, .int .i64 x.b.length, .int .u64 x.aQ, .bool x.closed] 90))=w2 at*
   obtain⟨aE,cE,q2,q3,hrow,-⟩:=HH.out w2 HB1.out
   rw[←HL.out]at q2 q3 hrow
   have HR:=Lib.hid hrow
   have hs2:=HB1.out.size
   have hr2:r<w2.heap.size:=by omega
   clear hrow HH
   go_loopw [8,9] (fun v i wr=>∃k:Nat,k≤n∧i= .int .i64 k∧vW w2 w2.heap.size E id k v wr) (fun _ i _=>n-(intOf i).toNat)
   case atStart=>exact⟨0,by omega,rfl,⟨rfl, .inl ⟨rfl,rfl⟩⟩,Below.refl _ _,Nat.le_refl _⟩
   case round=>
    obtain⟨k,hk,rfl,hown,hB,G_⟩:=hrel
    have HO:=Lib.hid hown
    have HB:=Lib.hid hB
    have c2:wr.cell? ⟨r,2,none⟩=some (.slice aE n cE):=by rw[hB.cell (p:=⟨r,2,none⟩) hr2];exact q2
    have hrr:r<wr.heap.size:=by omega
    have hll:=QJ E id k
    clear hB hown
    by_cases hlt:k<n
    ·have hx:E[k]? =some (E[k]'(by have:=HL.out;omega)):=List.getElem?_eq_getElem _
     obtain⟨q,hq⟩:∃q,q=E[k]'(by have:=HL.out;omega):=⟨_,rfl⟩
     rw[←hq]at hx
     have HX:=Lib.hid hx
     obtain⟨b,off,rfl,hF,hb,hi,hc⟩:=(HR.out.below HB.out (Nat.le_refl _)).wide iN HL.out.symm hx (by omega)
     have c0:wr.cell? ⟨b,off+k*3,none⟩=some (.int .i64 q.1):=hc 0 (by omega)
     have c1:wr.cell? ⟨b,off+k*3+1,none⟩=some (.string (strOf q.2.1)):=hc 1 (by omega)
     clear hx hq hc
     have i0:(0:Int)≤k:=by omega
     have i1:(k:Int)<n:=by omega
     by_cases hp:q.1=id
     ·have hpp:(q.1==id)=true:=by simpa using hp
      have HP:=Lib.hid (QI HX.out hp)
      obtain⟨m,hm⟩:∃m,m=(FM E id k).length:=⟨_,rfl⟩
      have HM:=Lib.hid hm
      rw[←hm]at HO hll
      clear hp hm
      go_wp2_with ((at_builtin;refine bM rfl _ _ 26 rfl w2.heap.size 9 _ (.string ByteArray.empty) 16 Tryz.underlying26 HI.out.1 HI.out.2.1 HI.out.2.2.1 HI.out.2.2.2 rfl _ m (QH E id k) rfl (HO.out.alloc _) (some ⟨wr.heap.size,0,none⟩) 1 1 [.string (strOf q.2.1)] rfl (ng _ _) (by simp[Value.oneCell']) (by unfold maxLen;omega) (by omega) (by simp;omega) ?_;intro A1 k1 w3 hown3 hgrow3 _ _))
      have HG:=Lib.hid hgrow3
      have Uo:=Lib.hid hown3
      clear hgrow3 hown3
      go_wp2
      go_roundw
      case rel=>exact⟨k+1,by omega,by go_num,La HP.out HM.out Uo.out HO.out HG.out HB.out G_⟩
      case measure=>simp[intOf];omega
     ·have hpp:(q.1==id)=false:=by simpa using hp
      have HP:=Lib.hid (Un HX.out hp)
      clear hp
      go_wp2
      go_roundw
      case rel=>exact⟨k+1,by omega,by go_num,by unfold vW QH;rw[HP.out];exact⟨HO.out,HB.out,G_⟩⟩
      case measure=>simp[intOf];omega
    ·go_wp2
     go_ret2
     have hkn:k=n:=by omega
     refine Ob ⟨HO.out,HB.out,G_⟩ ?_ HB1.out ?_
     ·unfold FM
      rw[List.take_of_length_le (by have:=HL.out;omega),HN.out,List.map_map]
      rfl
     ·intro l hl
      obtain⟨e,he,rfl⟩:=List.mem_map.1 hl
      have:=n_ _ (hgood.out e he)
      unfold maxLen;omega
  ·have e1:(x.kind==2)=false:=by simpa using hk
   have e2:(x.kind !=2)=true:=by simpa using hk
   simp only[if_neg hk]
   clear h hx hT hk
   go_enter Tryz.func73,Tryz.ntmps73
   go_wp2_with fail
   (with_reducible refine H4.out.mono ?_)
   rintro e w1 ⟨rfl,hb1⟩
   go_wp2_with fail
   go_ret2
   exact⟨none,0,rfl,Nat.le_refl _,⟨aC.nil _ _ _,by simp⟩,hb1.trans ((wall w1 _).mono hb1.size)⟩
end
theorem Keeps.cell_ {r b:Nat} {w w':World} (h:Keeps (fun x=>x=r) w w') (hb:b<w.heap.size) (hn:b≠r) (j:Nat):w'.cell? ⟨b,j,none⟩=w.cell? ⟨b,j,none⟩:=World.cell?_of_block (w:=w) (w':=w') (a:=⟨b,j,none⟩) (h.block b hb hn)
theorem Aa {T:aG} {p:List Nm} (h:(fE T p).2=0):fE T p=aH T 0 p:=by
 unfold fE at h⊢
 by_cases h1:bS p≠0
 ·rw[if_pos h1]at h;exact absurd h h1
 ·rw[if_neg h1]
section
variable {F:Nat→Prop} {r:Nat} {T:aG}
set_option maxRecDepth 100000 in
set_option maxHeartbeats 8000000 in
theorem yw {S:Nat→Prop} (a:Option Addr) (n c:Nat) (ls:List Nm) (w:World) (h:iq F w r T) (hT:dX T) (hS:aK S w a n (ls.map strOf)) (hc:n≤c) (kV:n≤1000000):
  Calls Tryz.prog 20 #[ptr r, .slice a n c] w (bX F w r (bT T ls).2 (.int .i64 (bT T ls).1)):=by
 have hE:(aT T).length≤1000000:=by have:=gQ hT;omega
 have H1:=Lib.hid (tQ a n c ls w h hT hE hS)
 have H3:=Lib.hid (fun w1 (hb:Below w.heap.size w w1)=>lF a n c ls w1 (h.below hb (Nat.le_refl _)) hT hE (hS.below hb (Nat.le_refl _)) hc kV)
 have H4:=Lib.hid (fun w1 (hb:Below w.heap.size w w1) id=>jA id w1 (h.below hb (Nat.le_refl _)) hT.toyQ)
 have H5:=Lib.hid (fun w1 (hb:Below w.heap.size w w1) d nm=>jG d nm w1 (h.below hb (Nat.le_refl _)) hE)
 have HH:=Lib.hid h
 have HT:=Lib.hid hT
 have hr0:=h.low r h.own
 by_cases h1:(fE T ls).2=0
 ·have Ab:=Aa h1
  rw[Ab]at h1 H1
  have hl2:aH T 0 ls=((aH T 0 ls).1,0):=Prod.ext rfl h1
  obtain⟨y,hy⟩:=Option.isSome_iff_exists.1 (fP hT ls 0 (eF hT) h1)
  have hue:iK T ls=if y.kind=2 then 22 else 0:=by
   unfold iK
   rw[Ab,if_neg (by rw[h1];simp),bQ hy]
  obtain⟨id,hid⟩:∃id,id=(aH T 0 ls).1:=⟨_,rfl⟩
  rw[←hid]at hl2 hy
  rw[hl2]at H1
  simp only at H1
  have wQ:=Lib.hid (fun w1 hb=>H4.out w1 hb id)
  have hnd:jf T id=jE id y:=by unfold jf;rw[hy]
  rw[hnd]at wQ
  unfold jE at wQ
  have hlk:=(hT.each id y hy).links
  by_cases h2:y.kind=2
  ·have hk1:(y.kind==2)=true:=by simpa using h2
   have HQ:Hid (bT T ls=(22,T)):=by
    show bT T ls=(22,T)
    unfold bT
    rw[hue,if_pos h2]
    rfl
   clear h hT hS hE H4 Ab h1 hl2 hue hid hnd hy h2
   go_enter Tryz.func20,Tryz.ntmps20
   go_wp2_with fail
   (with_reducible refine H1.out.mono ?_)
   rintro e w1 ⟨rfl,hb1⟩
   have HB1:=Lib.hid hb1
   clear hb1
   go_wp2_with fail
   (with_reducible refine(wQ.out w1 HB1.out).mono ?_)
   rintro e w3 ⟨rfl,hb3⟩
   have HB3:=Lib.hid (HB1.out.trans (hb3.mono HB1.out.size))
   have hz3:=HB3.out.size
   clear hb3
   go_wp2_with fail
   go_ret
   exact bX.no HH.out (HB3.out.trans ((wall w3 _).mono HB3.out.size)) HQ.out
  ·have hk1:(y.kind==2)=false:=by simpa using h2
   have hls:ls≠[]:=fun e=>by
    rw[e]at hl2
    simp only[aH,Prod.mk.injEq,and_true]at hl2
    obtain⟨z,hz,WT⟩:=gM hT.root
    rw[←hl2,hz]at hy
    cases hy
    exact h2 WT
   obtain⟨d,x,n1,hp1,hp2,hx,hxk,hxn,hm,-⟩:=dB hl2 hls
   rw[hp1]at H3
   simp only at H3
   have Oc:id≠d:=fun e=>by rw[e,hx]at hy;cases hy;exact h2 hxk
   have BN:=Lib.hid ((su.of hT).cut d n1)
   obtain⟨k,hk,-⟩:=vU (su.of hT) hx hxn
   have uF:=Lib.hid (fun w1 hb=>H5.out w1 hb d n1)
   rw[hk]at uF
   have He:Hid (∀w4,Below w.heap.size w w4→Calls Tryz.prog 74 #[ptr r, .int .i64 k] w4 (bX F w4 r (aF T d n1) (.tuple #[]))):=fun w4 hb=>by
    obtain⟨k',hk',hc'⟩:=zi d n1 id x w4 (h.below hb (Nat.le_refl _)) (su.of hT) hx hxn
    rw[hk]at hk'
    have:k=k':=by omega
    rw[this]
    exact hc'
   have K_:Hid (aj id (aF T d n1)=some y):=by
    show aj id (aF T d n1)=some y
    unfold aF
    rw[bq,if_neg Oc]
    exact hy
   have Uq:Hid (aj id (bH id (fun x:bW=>{x with links:=x.links+ -1}) (aF T d n1))=some {y with links:=y.links+ -1}):=by
    show aj id (bH id (fun x:bW=>{x with links:=x.links+ -1}) (aF T d n1))=some {y with links:=y.links+ -1}
    rw[bq,if_pos rfl,K_.out]
    rfl
   have HL2:Hid (su (bH id (fun x:bW=>{x with links:=x.links+ -1}) (aF T d n1))):=BN.out.bH id (fun _=>by exact rfl)
   have hnil:y.names=[]:=(hT.each id y hy).file ((hT.each id y hy).kind.resolve_right h2)
   have HQ:Hid (bT T ls=(0,if y.links=1∧y.closed=true then bR id (bH id (fun x:bW=>{x with links:=x.links+ -1}) (aF T d n1))else bH id (fun x:bW=>{x with links:=x.links+ -1}) (aF T d n1))):=by
    show bT T ls=_
    unfold bT
    rw[hue,if_neg h2]
    refine Prod.ext rfl ?_
    show pX T ls=_
    unfold pX fT
    rw[hp1,←hid]
    have e0:(fun x:bW=>{x with links:=x.links-1})=fun x:bW=>{x with links:=x.links+ -1}:=rfl
    simp only[e0]
    rw[Uq.out]
    simp only
    by_cases hq:y.links=1∧y.closed=true
    ·rw[if_pos hq,if_pos ⟨by omega,hq.2⟩]
    ·rw[if_neg hq,if_neg (fun h=>hq ⟨by omega,h.2⟩)]
   clear h hT hS hE H4 H5 Ab h1 hl2 hue hid hnd hy h2 hls hp1 hp2 hx hxk hxn hm hk Oc
   by_cases h3:y.links=1
   ·have e1:(y.links==1)=true:=by simpa using h3
    cases h4:y.closed with
    |true=>
     rw[if_pos ⟨h3,h4⟩]at HQ
     rw[h4]at wQ
     have hcl:=Lib.hid h4
     clear h3 h4
     go_enter Tryz.func20,Tryz.ntmps20
     go_wp2_with fail
     (with_reducible refine H1.out.mono ?_)
     rintro e w1 ⟨rfl,hb1⟩
     have HB1:=Lib.hid hb1
     clear hb1
     go_wp2_with fail
     (with_reducible refine(wQ.out w1 HB1.out).mono ?_)
     rintro e w3 ⟨rfl,hb3⟩
     have HB3:=Lib.hid (HB1.out.trans (hb3.mono HB1.out.size))
     have hz3:=HB3.out.size
     clear hb3
     go_wp2_with fail
     (with_reducible refine(H3.out _ (HB3.out.trans ((wall w3 _).mono HB3.out.size))).mono ?_)
     rintro e w4 ⟨rfl,hb4⟩
     have eO:=Lib.hid ((HB3.out.trans ((wall w3 _).mono HB3.out.size)).trans (hb4.mono (by simp;omega)))
     have q4:w4.cell? ⟨w3.heap.size,2,none⟩=some (.int .i64 y.links):=by rw[hb4.cell (p:=⟨w3.heap.size,2,none⟩) (by simp)];exact fU w3 _ _ 2
     have q5:w4.cell? ⟨w3.heap.size,5,none⟩=some (.bool true):=by rw[hb4.cell (p:=⟨w3.heap.size,5,none⟩) (by simp)];exact(fU w3 _ _ 5)
     have z_:w3.heap.size<w4.heap.size:=by have:=hb4.size;simp at this;omega
     obtain⟨qb,FN⟩:∃qb,qb=w3.heap.size:=⟨_,rfl⟩
     have hqr:qb≠r:=by omega
     rw[←FN]at q4 q5 z_⊢
     have HZ:=Lib.hid FN
     clear hb4 FN hz3
     go_wp2_with fail
     (with_reducible refine(uF.out w4 eO.out).mono ?_)
     rintro e w5 ⟨rfl,rfl⟩
     go_wp2_with fail
     (with_reducible refine(He.out w4 eO.out).mono ?_)
     rintro e w5 QG
     obtain⟨rfl,u7,Bw⟩:=QG
     have SS:w5.cell? ⟨qb,2,none⟩=some (.int .i64 y.links):=(u7.cell_ z_ hqr 2).trans q4
     have SV:w5.cell? ⟨qb,5,none⟩=some (.bool true):=(u7.cell_ z_ hqr 5).trans q5
     have Hf:qb<w5.heap.size:=by have:=u7.size;omega
     have G9:=Lib.hid (tX id (-1) y w5 Bw BN.out K_.out (by omega) hlk)
     have Cy:Hid (bX F w4 r (aF T d n1) (.tuple #[]) (.returned (.tuple #[])) w5):=⟨rfl,u7,Bw⟩
     clear u7 Bw q4 q5
     go_wp2_with fail
     (with_reducible refine G9.out.mono ?_)
     rintro e w6 nC
     obtain⟨rfl,CY,qR⟩:=nC
     have q4:w6.cell? ⟨qb,2,none⟩=some (.int .i64 y.links):=(CY.cell_ Hf hqr 2).trans SS
     have q5:w6.cell? ⟨qb,5,none⟩=some (.bool true):=(CY.cell_ Hf hqr 5).trans SV
     have hz6:qb<w6.heap.size:=by have:=CY.size;omega
     have EF:=Lib.hid (sw id _ w6 qR HL2.out.sorted HL2.out.len Uq.out hnil)
     have iY:Hid (bX (Grow F w4 w5) w5 r (bH id (fun x=>{x with links:=x.links+ -1}) (aF T d n1)) (.tuple #[]) (.returned (.tuple #[])) w6):=⟨rfl,CY,qR⟩
     clear CY qR SS SV
     go_wp2_with fail
     (with_reducible refine EF.out.mono ?_)
     rintro e w7 Od
     have QF:=Lib.hid Od
     obtain rfl:=Od.1
     clear Od
     go_wp2_with fail
     go_ret
     rw[HQ.out]
     have ht56:=Cy.out.trans (HH.out.below eO.out (Nat.le_refl _)).low iY.out
     exact(dY.behind HH.out.low eO.out (Cy.out.trans (HH.out.below eO.out (Nat.le_refl _)).low (iY.out.trans Cy.out.2.2.low QF.out))).val _
    |false=>
     rw[if_neg (by rw[h4];simp)]at HQ
     rw[h4]at wQ
     clear h3 h4
     go_enter Tryz.func20,Tryz.ntmps20
     go_wp2_with fail
     (with_reducible refine H1.out.mono ?_)
     rintro e w1 ⟨rfl,hb1⟩
     have HB1:=Lib.hid hb1
     clear hb1
     go_wp2_with fail
     (with_reducible refine(wQ.out w1 HB1.out).mono ?_)
     rintro e w3 ⟨rfl,hb3⟩
     have HB3:=Lib.hid (HB1.out.trans (hb3.mono HB1.out.size))
     have hz3:=HB3.out.size
     clear hb3
     go_wp2_with fail
     (with_reducible refine(H3.out _ (HB3.out.trans ((wall w3 _).mono HB3.out.size))).mono ?_)
     rintro e w4 ⟨rfl,hb4⟩
     have eO:=Lib.hid ((HB3.out.trans ((wall w3 _).mono HB3.out.size)).trans (hb4.mono (by simp;omega)))
     have q4:w4.cell? ⟨w3.heap.size,2,none⟩=some (.int .i64 y.links):=by rw[hb4.cell (p:=⟨w3.heap.size,2,none⟩) (by simp)];exact fU w3 _ _ 2
     have q5:w4.cell? ⟨w3.heap.size,5,none⟩=some (.bool false):=by rw[hb4.cell (p:=⟨w3.heap.size,5,none⟩) (by simp)];exact fU w3 _ _ 5
     have z_:w3.heap.size<w4.heap.size:=by have:=hb4.size;simp at this;omega
     obtain⟨qb,FN⟩:∃qb,qb=w3.heap.size:=⟨_,rfl⟩
     have hqr:qb≠r:=by omega
     rw[←FN]at q4 q5 z_⊢
     have HZ:=Lib.hid FN
     clear hb4 FN hz3
     go_wp2_with fail
     (with_reducible refine(uF.out w4 eO.out).mono ?_)
     rintro e w5 ⟨rfl,rfl⟩
     go_wp2_with fail
     (with_reducible refine(He.out w4 eO.out).mono ?_)
     rintro e w5 QG
     obtain⟨rfl,u7,Bw⟩:=QG
     have SS:w5.cell? ⟨qb,2,none⟩=some (.int .i64 y.links):=(u7.cell_ z_ hqr 2).trans q4
     have SV:w5.cell? ⟨qb,5,none⟩=some (.bool false):=(u7.cell_ z_ hqr 5).trans q5
     have Hf:qb<w5.heap.size:=by have:=u7.size;omega
     have G9:=Lib.hid (tX id (-1) y w5 Bw BN.out K_.out (by omega) hlk)
     have Cy:Hid (bX F w4 r (aF T d n1) (.tuple #[]) (.returned (.tuple #[])) w5):=⟨rfl,u7,Bw⟩
     clear u7 Bw q4 q5
     go_wp2_with fail
     (with_reducible refine G9.out.mono ?_)
     rintro e w6 nC
     obtain⟨rfl,CY,qR⟩:=nC
     have q4:w6.cell? ⟨qb,2,none⟩=some (.int .i64 y.links):=(CY.cell_ Hf hqr 2).trans SS
     have q5:w6.cell? ⟨qb,5,none⟩=some (.bool false):=(CY.cell_ Hf hqr 5).trans SV
     have hz6:qb<w6.heap.size:=by have:=CY.size;omega
     have iY:Hid (bX (Grow F w4 w5) w5 r (bH id (fun x=>{x with links:=x.links+ -1}) (aF T d n1)) (.tuple #[]) (.returned (.tuple #[])) w6):=⟨rfl,CY,qR⟩
     clear CY qR SS SV
     go_wp2_with fail
     go_ret
     rw[HQ.out]
     exact(dY.behind HH.out.low eO.out (Cy.out.trans (HH.out.below eO.out (Nat.le_refl _)).low iY.out)).val _
   ·have e1:(y.links==1)=false:=by simpa using h3
    rw[if_neg (fun h=>h3 h.1)]at HQ
    clear h3
    go_enter Tryz.func20,Tryz.ntmps20
    go_wp2_with fail
    (with_reducible refine H1.out.mono ?_)
    rintro e w1 ⟨rfl,hb1⟩
    have HB1:=Lib.hid hb1
    clear hb1
    go_wp2_with fail
    (with_reducible refine(wQ.out w1 HB1.out).mono ?_)
    rintro e w3 ⟨rfl,hb3⟩
    have HB3:=Lib.hid (HB1.out.trans (hb3.mono HB1.out.size))
    have hz3:=HB3.out.size
    clear hb3
    go_wp2_with fail
    (with_reducible refine(H3.out _ (HB3.out.trans ((wall w3 _).mono HB3.out.size))).mono ?_)
    rintro e w4 ⟨rfl,hb4⟩
    have eO:=Lib.hid ((HB3.out.trans ((wall w3 _).mono HB3.out.size)).trans (hb4.mono (by simp;omega)))
    have q4:w4.cell? ⟨w3.heap.size,2,none⟩=some (.int .i64 y.links):=by rw[hb4.cell (p:=⟨w3.heap.size,2,none⟩) (by simp)];exact fU w3 _ _ 2
    have q5:w4.cell? ⟨w3.heap.size,5,none⟩=some (.bool y.closed):=by rw[hb4.cell (p:=⟨w3.heap.size,5,none⟩) (by simp)];exact fU w3 _ _ 5
    have z_:w3.heap.size<w4.heap.size:=by have:=hb4.size;simp at this;omega
    obtain⟨qb,FN⟩:∃qb,qb=w3.heap.size:=⟨_,rfl⟩
    have hqr:qb≠r:=by omega
    rw[←FN]at q4 q5 z_⊢
    have HZ:=Lib.hid FN
    clear hb4 FN hz3
    go_wp2_with fail
    (with_reducible refine(uF.out w4 eO.out).mono ?_)
    rintro e w5 ⟨rfl,rfl⟩
    go_wp2_with fail
    (with_reducible refine(He.out w4 eO.out).mono ?_)
    rintro e w5 QG
    obtain⟨rfl,u7,Bw⟩:=QG
    have SS:w5.cell? ⟨qb,2,none⟩=some (.int .i64 y.links):=(u7.cell_ z_ hqr 2).trans q4
    have SV:w5.cell? ⟨qb,5,none⟩=some (.bool y.closed):=(u7.cell_ z_ hqr 5).trans q5
    have Hf:qb<w5.heap.size:=by have:=u7.size;omega
    have G9:=Lib.hid (tX id (-1) y w5 Bw BN.out K_.out (by omega) hlk)
    have Cy:Hid (bX F w4 r (aF T d n1) (.tuple #[]) (.returned (.tuple #[])) w5):=⟨rfl,u7,Bw⟩
    clear u7 Bw q4 q5
    go_wp2_with fail
    (with_reducible refine G9.out.mono ?_)
    rintro e w6 nC
    obtain⟨rfl,CY,qR⟩:=nC
    have q4:w6.cell? ⟨qb,2,none⟩=some (.int .i64 y.links):=(CY.cell_ Hf hqr 2).trans SS
    have q5:w6.cell? ⟨qb,5,none⟩=some (.bool y.closed):=(CY.cell_ Hf hqr 5).trans SV
    have hz6:qb<w6.heap.size:=by have:=CY.size;omega
    have iY:Hid (bX (Grow F w4 w5) w5 r (bH id (fun x=>{x with links:=x.links+ -1}) (aF T d n1)) (.tuple #[]) (.returned (.tuple #[])) w6):=⟨rfl,CY,qR⟩
    clear CY qR SS SV
    go_wp2_with fail
    go_ret
    rw[HQ.out]
    exact(dY.behind HH.out.low eO.out (Cy.out.trans (HH.out.below eO.out (Nat.le_refl _)).low iY.out)).val _
 ·have HQ:Hid (bT T ls=((fE T ls).2,T)):=by
   show bT T ls=_
   have he:iK T ls=(fE T ls).2:=by unfold iK;rw[if_pos h1]
   unfold bT
   rw[he,if_neg h1]
  generalize fE T ls=lk at*
  obtain⟨id,e1⟩:=lk
  simp only at h1 H1 HQ
  have hne:(e1==0)=false:=by simpa using h1
  have hne2:(e1 !=0)=true:=by simpa using h1
  clear h hT hS hE h1
  go_enter Tryz.func20,Tryz.ntmps20
  go_wp2_with fail
  (with_reducible refine H1.out.mono ?_)
  rintro e w1 ⟨rfl,hb1⟩
  have HB1:=Lib.hid hb1
  clear hb1
  go_wp2_with fail
  go_ret
  exact bX.no HH.out HB1.out HQ.out
end
end Go.Proofs.YtmabllemjkcobaaGreat
