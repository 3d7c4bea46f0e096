/- The reference's Names. -/
import Derived.Test.YtmabllemjkcobaaGreatM50
import Derived.Test.YtmabllemjkcobaaGreatM21
import Derived.Test.YtmabllemjkcobaaGreatM25
import Derived.Test.YtmabllemjkcobaaGreatM51
import Derived.Deep.CutBlock
import Derived.Deep.DeepCutAuto
namespace Go.Proofs.YtmabllemjkcobaaGreat
open Go.ChangeShapes Go.WideShapes Go.ChangeAt Go.RowKit
set_option linter.unusedVariables false
set_option linter.unusedSimpArgs false
theorem Sv {T:aG} {dep:Int→Nat} (hT:dX T) (hd:dQ T dep) {n:Nat} {id:Int} (hl:Ht T dep id<n):(bI T n id).Perm (pV T id):=by
 refine(List.perm_ext_iff_of_nodup (Bp hT hd n id hl) (mD hT 8 0 [])).2 fun q=> ?_
 rw[xX hT hd n id q hl]
 exact(oJ ⟨hT,dep,hd⟩).symm
theorem GY {T:aG} {dep:Int→Nat} (hT:dX T) (hd:dQ T dep) {n:Nat} {id:Int} (hl:Ht T dep id<n):(bI T n id).length≤64∧∀q∈bI T n id,Small q:=by
 have hp:=Sv hT hd hl
 refine⟨by rw[hp.length_eq];exact Ez ⟨hT,dep,hd⟩ id,fun q hq=> ?_⟩
 obtain⟨h1,h2⟩:=xY ⟨hT,dep,hd⟩ (hp.mem_iff.1 hq)
 exact⟨by omega,fun m hm=>n_ _ (List.all_eq_true.1 h1 m hm)⟩
def JA (T:aG) (n:Nat) (id:Int) (k:Nat) (e:iT) (j:Nat):List (List Nm):=(((bI T n e.1).take j).map fun u=>u++[e.2.1]).foldl rO (EH T n id k)
theorem PN (T:aG) (n:Nat) (id:Int) (k:Nat) (e:iT):JA T n id k e 0=EH T n id k:=rfl
theorem GZ {T:aG} {n:Nat} {id:Int} {k:Nat} {e:iT} {j:Nat} {u:List Nm} (hx:(bI T n e.1)[j]? =some u):JA T n id k e (j+1)=rO (JA T n id k e j) (u++[e.2.1]):=by
 obtain⟨hk,h⟩:=List.getElem?_eq_some_iff.1 hx
 unfold JA
 rw[List.take_succ_eq_append_getElem hk,List.map_append,List.foldl_append,h]
 rfl
theorem KF {T:aG} {n:Nat} {id:Int} {k:Nat} {e:iT} (hx:(aT T)[k]? =some e) (he:e.2.2=id) {j:Nat} (hj:(bI T n e.1).length≤j):JA T n id k e j=EH T n id (k+1):=by
 unfold JA
 rw[GU hx,List.take_of_length_le hj]
 unfold yY
 rw[if_pos he]
theorem VR {T:aG} {n:Nat} {id:Int} {k:Nat} {e:iT} (hx:(aT T)[k]? =some e) (he:e.2.2≠id):EH T n id (k+1)=EH T n id k:=by
 rw[GU hx]
 unfold yY
 rw[if_neg he]
 rfl
theorem PO {T:aG} {dep:Int→Nat} (hT:dX T) (hd:dQ T dep) {n:Nat} {id:Int} (hl:Ht T dep id<n+1) (h0:id≠0) (k:Nat):(EH T n id k).length≤64∧∀q∈EH T n id k,Small q:=by
 obtain⟨h1,h2⟩:=GY hT hd hl
 have e1:bI T (n+1) id=((aT T).flatMap (yY (bI T n) id)).foldl rO []:=by rw[bI,if_neg h0]
 have p1:=lX ((aT T).flatMap (yY (bI T n) id)) []
 rw[←e1,List.nil_append]at p1
 have p2:(EH T n id k).Perm (((aT T).take k).flatMap (yY (bI T n) id)):=lX _ []
 refine⟨?_,fun q hq=>h2 q (p1.mem_iff.2 ?_)⟩
 ·rw[p1.length_eq,←List.take_append_drop k (aT T),List.flatMap_append,List.length_append]at h1
  rw[p2.length_eq]
  omega
 ·obtain⟨e,he,hm⟩:=List.mem_flatMap.1 (p2.mem_iff.1 hq)
  exact List.mem_flatMap.2 ⟨e,List.mem_of_mem_take he,hm⟩
theorem VT {T:aG} {dep:Int→Nat} (hT:dX T) (hd:dQ T dep) {n:Nat} {id:Int} (hl:Ht T dep id<n+1) (h0:id≠0) {k:Nat} {e:iT} (hx:(aT T)[k]? =some e) (he:e.2.2=id) (j:Nat):(JA T n id k e j).length≤64∧∀q∈JA T n id k e j,Small q:=by
 obtain⟨h1,h2⟩:=PO hT hd hl h0 (k+1)
 rw[←KF hx he (Nat.le_refl _)]at h1 h2
 unfold JA at h1 h2⊢
 rw[List.take_length]at h1 h2
 have p1:=lX ((bI T n e.1).map fun u=>u++[e.2.1]) (EH T n id k)
 have p2:=lX (((bI T n e.1).take j).map fun u=>u++[e.2.1]) (EH T n id k)
 refine⟨?_,fun q hq=>h2 q (p1.mem_iff.2 ?_)⟩
 ·rw[p1.length_eq,List.length_append,List.length_map]at h1
  rw[p2.length_eq,List.length_append,List.length_map,List.length_take]
  omega
 ·rcases List.mem_append.1 (p2.mem_iff.1 hq)with h3|h3
  ·exact List.mem_append_left _ h3
  ·obtain⟨u,hu,rfl⟩:=List.mem_map.1 h3
   exact List.mem_append_right _ (List.mem_map.2 ⟨u,List.mem_of_mem_take hu,rfl⟩)
def fM (B:Nat) (L:List (List Nm)) (v:Value) (w:World):Prop:=
 ∃a c vals,v= .slice a L.length c∧w.ownsRow B 26 1 (.slice a L.length c) L.length vals∧iU (fun b=>B≤b∧b<w.heap.size) w vals L
theorem fM.below {B:Nat} {L:List (List Nm)} {v:Value} {w w':World} (h:fM B L v w) (hb:Below w.heap.size w w'):fM B L v w':=by
 obtain⟨a,c,vals,h1,h2,h3⟩:=h
 exact⟨a,c,vals,h1,own_below h2 hb,h3.move hb.size fun b hb' hbw=>⟨⟨hb'.1,Nat.lt_of_lt_of_le hb'.2 hb.size⟩,hb.block b hbw⟩⟩
theorem fM.base {B B':Nat} {L:List (List Nm)} {v:Value} {w:World} (h:fM B' L v w) (hb:B≤B'):fM B L v w:=by
 obtain⟨a,c,vals,h1,h2,h3⟩:=h
 exact⟨a,c,vals,h1,uZ h2 hb,h3.move (Nat.le_refl _) fun b hb' _=>⟨⟨by have:=hb'.1;omega,hb'.2⟩,rfl⟩⟩
theorem fM.nil (B:Nat) (w:World):fM B [] (.slice none 0 0) w:=⟨none,0,[],rfl,⟨rfl, .inl ⟨rfl,rfl⟩⟩,rfl,fun i q hq=>by simp at hq⟩
theorem fM.at_ {B:Nat} {L:List (List Nm)} {v:Value} {w:World} (h:fM B L v w) {k:Nat} {q:List Nm} (hx:L[k]? =some q):∃b c pv,v= .slice (some ⟨b,0,none⟩) L.length c∧b<w.heap.size∧w.cell? ⟨b,k,none⟩=some pv∧fF (fun x=>B≤x∧x<w.heap.size) w pv q:=by
 obtain⟨a,c,vals,rfl,h2,h3⟩:=h
 have hk:=(List.getElem?_eq_some_iff.1 hx).1
 obtain⟨u,hu,hp⟩:=h3.2 k q hx
 rcases h2.2 with⟨e,_⟩|⟨g,cap,cur,e,hg,hcur,h4,h5,h6,h7⟩
 ·simp only[Value.slice.injEq]at e
  omega
 ·simp only[Value.slice.injEq,true_and]at e
  obtain⟨rfl,rfl⟩:=e
  refine⟨g,_,u,rfl,(Array.getElem?_eq_some_iff.1 hcur).1,?_,hp⟩
  rw[←h7,List.getElem?_take,if_pos (by omega)]at hu
  simp only[World.cell?,hcur]
  simpa using hu
theorem fM.form {B:Nat} {L:List (List Nm)} {v:Value} {w:World} (h:fM B L v w):∃a c,v= .slice a L.length c:=by
 obtain⟨a,c,vals,h1,-⟩:=h
 exact⟨a,c,h1⟩
theorem fF.grow {S:Nat→Prop} {w w':World} {u:Value} {q:List Nm} (h:fF S w u q) (hb:Below w.heap.size w w'):fF S w' u q:=h.move hb.size fun b hb' hbw=>⟨hb',hb.block b hbw⟩
def AtK (L:List (List Nm)) (p:List Nm) (W:World) (v:Value) (wx:World):Prop:=∃k:Nat,k≤L.length∧v= .int .i64 k∧rO L p=L.take k++p::L.drop k∧Below W.heap.size W wx
theorem PS {L:List (List Nm)} {p:List Nm} {W wx:World} {k:Nat} (hk:k≤L.length) (ha:(L.take k).all (fun q=>kJ q p)=true) (hx:∀x,L[k]? =some x→kJ x p=false) (hb:Below W.heap.size W wx):AtK L p W (.int .i64 k) wx:=by
 refine⟨k,hk,rfl,?_,hb⟩
 obtain⟨h1,h2⟩:=qP ha hx hk
 unfold rO
 rw[h1,h2]
theorem Ms {α:Type} {p:α→Bool} {l:List α} {k:Nat} {x:α} (h:(l.take k).all p=true) (hx:l[k]? =some x) (hp:p x=true):(l.take (k+1)).all p=true:=by
 obtain⟨hk,e⟩:=List.getElem?_eq_some_iff.1 hx
 rw[List.take_succ_eq_append_getElem hk,List.all_append,h,e]
 simp[hp]
theorem oK {w w':World} {B:Nat} (h:Below B w w'):Below B w w'.drew:=h.trans ⟨rfl,rfl,rfl,Nat.le_refl _,fun _ _=>rfl⟩
theorem Bq {w u0:World} {A:Option Addr} {c nu:Nat} {u uo:List Nm} {nm:Nm} (h:u0.ownsRow w.heap.size 9 1 (.slice A (nu+1) c) (nu+1) ((u.map strOf).map .string++[.string (strOf nm)])) (hn:nu=u.length) (hp:uo=u++[nm]) (hu:∀x∈u,x.length≤maxLen) (hm:nm.length≤maxLen):fF (fun b=>w.heap.size≤b∧b<u0.heap.size) u0 (.slice A (nu+1) c) uo:=by
 subst hp
 refine fF.mM (n:=nu+1) (by simpa using h) fun x hx=> ?_
 rcases List.mem_append.1 hx with h1|h1
 ·exact hu x h1
 ·rw[List.mem_singleton.1 h1];exact hm
theorem Mt:(Tryz.prog.info? 26).map (fun i=>(i.zero,i.size,i.bytes))=some (some (.slice none 0 0),1,24):=by kernel_rfl
theorem Mv {B nL i c:Nat} {w wx:World} {L:List (List Nm)} {uo:List Nm} {pv:Value} {A:Option Addr} {vals:List Value} (Y9:nL=L.length) (hi:i≤nL) (hB:B≤w.heap.size) (hb:Below w.heap.size w wx) (ho:wx.ownsRow w.heap.size 26 1 (.slice A (nL+1) c) (nL+1) (vals.take i++[pv]++vals.drop i)) (hv:iU (fun b=>B≤b∧b<w.heap.size) w vals L) (hp:fF (fun b=>B≤b∧b<w.heap.size) w pv uo):
  fM B (L.take i++uo::L.drop i) (.slice A (nL+1) c) wx:=by
 have hvl:=hv.1
 have hl:(L.take i++uo::L.drop i).length=nL+1:=by
  simp only[List.length_append,List.length_take,List.length_cons,List.length_drop]
  omega
 refine⟨A,c,vals.take i++[pv]++vals.drop i,by rw[hl],by rw[hl];exact uZ ho hB,?_⟩
 refine iU.move (w:=w) (S:=fun b=>B≤b∧b<w.heap.size) ⟨?_,fun m q hq=> ?_⟩ hb.size fun b hb' hbw=>⟨⟨hb'.1,Nat.lt_of_lt_of_le hb'.2 hb.size⟩,hb.block b hbw⟩
 ·simp only[List.length_append,List.length_take,List.length_cons,List.length_drop,List.length_nil]
  omega
 ·rw[List.append_assoc]
  have hit:(L.take i).length=i:=by rw[List.length_take];omega
  have hvt:(vals.take i).length=i:=by rw[List.length_take];omega
  by_cases hm:m<i
  ·rw[List.getElem?_append_left (by omega),List.getElem?_take,if_pos hm]at hq
   rw[List.getElem?_append_left (by omega),List.getElem?_take,if_pos hm]
   exact hv.2 m q hq
  ·rw[List.getElem?_append_right (by omega),hit]at hq
   rw[List.getElem?_append_right (by omega),hvt]
   match m-i,hq with
   |0,hq=>
    have e9:uo=q:=by simpa using hq
    rw[←e9]
    exact⟨pv,rfl,hp⟩
   |z+1,hq=>
    have e9:(L.drop i)[z]? =some q:=by simpa using hq
    rw[List.getElem?_drop]at e9
    obtain⟨u9,h8,h9⟩:=hv.2 _ q e9
    exact⟨u9,by simp only[List.singleton_append,List.getElem?_cons_succ,List.getElem?_drop];exact h8,h9⟩
theorem JB {w wx:World} {A:Option Addr} {c i nL:Nat} {vals:List Value} {pv:Value} (h:wx.ownsRow w.heap.size 26 1 (.slice A (i+1+(nL-i)) c) (i+1+(nL-i)) (vals.take i++[pv]++vals.drop i)) (hi:i≤nL):wx.ownsRow w.heap.size 26 1 (.slice A (nL+1) c) (nL+1) (vals.take i++[pv]++vals.drop i):=by
 rw[show nL+1=i+1+(nL-i)by omega]
 exact h
section
variable {F:Nat→Prop} {r:Nat} {T:aG}
def x9 (w:World) (L:List (List Nm)) (e:Ending) (w':World):Prop:=∃v,e= .returned v∧fM w.heap.size L v w'∧Below w.heap.size w w'
theorem G5 (w:World) (n:Nat):Calls Tryz.prog 58 #[ptr r, .int .i64 0] w (x9 w (bI T n 0)):=by
 have e1:bI T n 0=[[]]:=by cases n<;>simp[bI]
 rw[e1]
 go_enter Tryz.func58,Tryz.ntmps58
 go_wp2_with fail
 go_ret
 have h1:(w.alloc (.cells #[.slice none 0 0] 26)).ownsRow w.heap.size 26 1 (.slice (some ⟨w.heap.size,0,none⟩) 1 1) 1 [.slice none 0 0]:=World.ownsRow_lit w #[.slice none 0 0] 1 (Nat.le_refl _) (by decide) rfl
 refine⟨_,rfl,⟨_,_,[.slice none 0 0],rfl,h1,⟨rfl,fun i q hq=> ?_⟩⟩,wall w _⟩
 match i,hq with
 |0,hq=>
  have e2:q=[]:=by simpa using hq.symm
  rw[e2]
  exact⟨_,rfl,xU _ _⟩
 |i+1,hq=>simp at hq
set_option maxRecDepth 100000 in
set_option maxHeartbeats 16000000 in
theorem pE (hT:dX T) {dep:Int→Nat} (hd:dQ T dep) (n:Nat) (ih:∀(id:Int) (w:World),iq F w r T→Ht T dep id<n→Calls Tryz.prog 58 #[ptr r, .int .i64 id] w (x9 w (bI T n id))) (id:Int) (w:World) (h:iq F w r T) (hl:Ht T dep id<n+1):Calls Tryz.prog 58 #[ptr r, .int .i64 id] w (x9 w (bI T (n+1) id)):=by
  by_cases h0:id=0
  ·subst h0
   exact G5 w (n+1)
  ·obtain⟨aN,cN,aD,cD,aE,cE,h1,h2,h3,h4,hN,hD,hE,-⟩:=h.head
   have hrw:=h.low r h.own
   have hef:=gQ hT
   have HT:=Lib.hid hT
   have HD:=Lib.hid hd
   have HL:=Lib.hid hl
   have H0:=Lib.hid h0
   have HR:=Lib.hid h
   have HIH:Hid (∀(d:Int) (w':World),Below w.heap.size w w'→Ht T dep d<n→Calls Tryz.prog 58 #[ptr r, .int .i64 d] w' (x9 w' (bI T n d))):=fun d w' hb hl=>ih d w' (h.below hb (Nat.le_refl _)) hl
   have X8:Hid (EH T n id 0=[]):=rfl
   have X0:Hid (EH T n id (aT T).length=bI T (n+1) id):=Si h0 (Nat.le_refl _)
   have Qg:=Lib.hid (PO hT hd hl h0)
   have hb0:(id==0)=false:=by simpa using h0
   obtain⟨E,hEe⟩:∃E,E=aT T:=⟨_,rfl⟩
   rw[←hEe]at h1 h4 hE hef X0
   obtain⟨M,hMe⟩:∃M,M=E.length:=⟨_,rfl⟩
   rw[←hMe]at h1 h4 hE hef X0
   have Bt:=Lib.hid hMe
   have Yo:=Lib.hid hEe
   have Ws:=Lib.hid hE
   have HC:Hid (∀w',Below w.heap.size w w'→w'.cell? ⟨r,2,none⟩=some (.slice aE M cE)):=fun w' hb=>by
    have hh:=(hb.block r hrw).trans h1
    simp[World.cell?,hh]
   clear h hT hd hl h0 ih h1 h2 h3 hN hD hE hMe hEe
   go_enter Tryz.func58,Tryz.ntmps58
   go_wp2_with fail
   go_loopw [5,6] (fun ov iv wr=>∃k:Nat,k≤M∧iv= .int .i64 k∧fM w.heap.size (EH T n id k) ov wr∧Below w.heap.size w wr) (fun _ iv _=>M-(intOf iv).toNat)
   case atStart=>exact⟨0,Nat.zero_le _,rfl,by rw[X8.out];exact fM.nil _ _,Below.refl _ _⟩
   case round=>
    obtain⟨k,hk,rfl,hown,hB⟩:=hrel
    have G_:=hB.size
    have c2:=HC.out _ hB
    by_cases hlt:k<M
    ·have hx:E[k]? =some (E[k]'(by have:=Bt.out;omega)):=List.getElem?_eq_getElem _
     obtain⟨e,he⟩:∃e,e=E[k]'(by have:=Bt.out;omega):=⟨_,rfl⟩
     rw[←he]at hx
     obtain⟨bE,oE,rfl,-,hbE,-,Yp⟩:=Ws.out.wide iN Bt.out.symm hx (by omega)
     have VU:Hid (∀w',Below w.heap.size w w'→w'.cell? ⟨bE,oE+k*3,none⟩=some (.int .i64 e.1)∧w'.cell? ⟨bE,oE+k*3+1,none⟩=some (.string (strOf e.2.1))∧w'.cell? ⟨bE,oE+k*3+2,none⟩=some (.int .i64 e.2.2)):=fun w' hb=>by
      have hc:=fun i hi=>(hb.cell (p:=⟨bE,oE+k*3+i,none⟩) hbE).trans (Yp i hi)
      exact⟨hc 0 (by omega),hc 1 (by omega),hc 2 (by omega)⟩
     have e0:=(VU.out _ hB).1
     have e2:=(VU.out _ hB).2.2
     have hxT:(aT T)[k]? =some e:=by rw[←Yo.out];exact hx
     have hj0:(0:Int)≤(k:Int):=by omega
     have hj1:(k:Int)<(M:Int):=by omega
     have MI:=Lib.hid hlt
     have HO:=Lib.hid hown
     have HB:=Lib.hid hB
     have HX:=Lib.hid hxT
     clear hx he Yp hown hB hlt hxT
     by_cases hp:e.2.2=id
     ·have hpp:(e.2.2 !=id)=false:=by simpa using hp
      have hlv:Ht T dep e.1<n:=by
       have h8:=xW HT.out HD.out (List.mem_of_getElem? HX.out)
       have h9:=HL.out
       rw[hp]at h8
       omega
      have HUP:=Lib.hid (HIH.out e.1 wr HB.out hlv)
      have HBU:=Lib.hid (GY HT.out HD.out hlv)
      have HP:=Lib.hid hp
      have gT:=Lib.hid (VT (n:=n) HT.out HD.out HL.out H0.out HX.out hp)
      have Tm:=Lib.hid (KF (n:=n) HX.out hp (Nat.le_refl _))
      clear hp hlv
      go_wp2_with fail
      (with_reducible refine HUP.out.mono ?_)
      rintro e w1 ⟨uv,rfl,hu,hb1⟩
      have rP:=Lib.hid (HO.out.below hb1)
      have HU:=Lib.hid hu
      have hB1:Below w.heap.size w w1:=HB.out.trans (hb1.mono G_)
      have HB1:=Lib.hid hB1
      have hs1:=hb1.size
      have hs1w:=hB1.size
      obtain⟨aU,cU,rfl⟩:=hu.form
      obtain⟨hul,hus⟩:=HBU.out
      obtain⟨U,hUe⟩:∃U,U=bI T n e.1:=⟨_,rfl⟩
      rw[←hUe]at HU hul hus Tm⊢
      obtain⟨nU,hnU⟩:∃k,k=U.length:=⟨_,rfl⟩
      rw[←hnU]at hul Tm⊢
      have HNU:=Lib.hid hnU
      have HUE:=Lib.hid hUe
      have HUS:=Lib.hid hus
      obtain⟨nm,hnm⟩:∃nm,nm=e.2.1:=⟨_,rfl⟩
      have mK:=Lib.hid hnm
      have VW:Hid (∀w',Below w.heap.size w w'→w'.cell? ⟨r,2,none⟩=some (.slice (some ⟨bE,oE,none⟩) M cE)∧w'.cell? ⟨bE,oE+k*3+1,none⟩=some (.string (strOf nm))):=fun w' hb=>by
       rw[hnm]
       exact⟨HC.out w' hb,(VU.out w' hb).2.1⟩
      have HP0:=Lib.hid (PN T n id k e)
      clear hb1 hu hUe hnU hnm hus hB1 e0 e2 c2 G_
      go_wp2_with fail
      obtain⟨wo,rfl⟩:∃wo:World,wo=wr:=⟨_,rfl⟩
      go_loopw [5,8] (fun ov kv wr=>∃j:Nat,j≤nU∧kv= .int .i64 j∧fM w.heap.size (JA T n id k e j) ov wr∧Below w1.heap.size w1 wr) (fun _ kv _=>nU-(intOf kv).toNat)
      case atStart=>exact⟨0,Nat.zero_le _,rfl,by rw[HP0.out];exact rP.out,Below.refl _ _⟩
      case round=>
       obtain⟨j,hj,rfl,hown,hB2⟩:=hrel
       have hs2:=hB2.size
       have hBw:Below w.heap.size w wr:=HB1.out.trans (hB2.mono hs1w)
       by_cases hjn:j<nU
       ·have hd2:decide (j<nU)=true:=by simpa using hjn
        obtain⟨u,IW⟩:∃u,U[j]? =some u:=⟨_,List.getElem?_eq_getElem (by have:=HNU.out;omega)⟩
        obtain⟨bU,cU',pv,huv,hbU,hcU,hpv⟩:=(HU.out.below hB2).at_ IW
        have huv2:aU=some ⟨bU,0,none⟩∧cU=cU':=by
         simp only[Value.slice.injEq,true_and]at huv
         exact huv
        obtain⟨rfl,rfl⟩:=huv2
        obtain⟨ap,cp,rfl,hcp,hst⟩:=hpv
        have hsu:=HUS.out u (List.mem_of_getElem? IW)
        have hsc:=gT.out j
        have hsc1:=gT.out (j+1)
        rw[GZ (by rw[←HUE.out];exact IW),←mK.out]at hsc1
        obtain⟨uo,PU⟩:∃p,p=u++[nm]:=⟨_,rfl⟩
        have hsp:Small uo:=hsc1.2 uo (by rw[PU];exact((Bo _ _).mem_iff).2 (by simp))
        have Yq:Hid (JA T n id k e (j+1)=rO (JA T n id k e j) uo):=by
         have h9:=GZ (T:=T) (n:=n) (id:=id) (k:=k) (e:=e) (j:=j) (u:=u) (by rw[←HUE.out];exact IW)
         rw[←mK.out,←PU]at h9
         exact h9
        obtain⟨L,hLe⟩:∃L,L=JA T n id k e j:=⟨_,rfl⟩
        rw[←hLe]at hown hsc Yq
        obtain⟨hLl,hLs⟩:=hsc
        obtain⟨nu,hnu⟩:∃n,n=u.length:=⟨_,rfl⟩
        have hnu64:nu≤64:=by rw[hnu];exact hsu.1
        have Sw:=hst.row
        rw[←hnu]at Sw hcU hcp
        have HST:=Lib.hid Sw
        have Qb:=Lib.hid hsp
        have Z0:=Lib.hid hLs
        have HPT:=Lib.hid PU
        have VX:=Lib.hid hnu
        have Ic:=Lib.hid hown
        have HB2:=Lib.hid hB2
        have Jk:=Lib.hid hBw
        have HJ:=Lib.hid hjn
        have hk0:(0:Int)≤(j:Int):=by omega
        have hk1:(j:Int)<(nU:Int):=by omega
        have hbUr:bU<wr.heap.size:=hbU
        have MJ:Hid (∀w',Below wr.heap.size wr w'→w'.cell? ⟨bU,j,none⟩=some (.slice ap nu cp)∧w'.cell? ⟨r,2,none⟩=some (.slice (some ⟨bE,oE,none⟩) M cE)∧w'.cell? ⟨bE,oE+k*3+1,none⟩=some (.string (strOf nm))):=fun w' hb=>
         ⟨(hb.cell (p:=⟨bU,j,none⟩) hbU).trans hcU,VW.out w' (hBw.trans (hb.mono hBw.size))⟩
        have VY:Hid (∀w',Below wr.heap.size wr w'→aC (fun x=>wo.heap.size≤x∧x<wr.heap.size) w' ap nu ((u.map strOf).map Value.string)):=fun w' hb=>Sw.below hb (Nat.le_refl _)
        have VZ:Hid (nm.length≤maxLen):=by
         have h9:=hsp.2 nm (by rw[PU];simp)
         show nm.length≤maxLen
         unfold maxLen;omega
        have PV:Hid (∀x∈u,x.length≤maxLen):=fun x hx=>by
         have:=hsu.2 x hx
         unfold maxLen;omega
        have hswr:=hBw.size
        obtain⟨i0,hi,hz,hz1,hz2⟩:=info_parts J9
        have HI:=Lib.hid (And.intro hi (And.intro hz (And.intro hz1 hz2)))
        clear huv IW PU hsu hsc1 hnu hst Sw hown hB2 hBw hjn hLs hsp hi hz hz1 hz2 hbU hcU
        go_upto_region 12 with(fail)
        go_cut [9]from 49 to 64 (fun pv wx=>∃x,x=pv∧fF (fun b=>wr.heap.size≤b∧b<wx.heap.size) wx x uo∧Below wr.heap.size wr wx)
        case first=>
         refine wp_region_noPanic ?_
         refine dZ (last:=16) (S:=(fun w'=>w'.cell? ⟨bU,j,none⟩=some (.slice ap nu cp)∧w'.cell? ⟨r,2,none⟩=some (.slice (some ⟨bE,oE,none⟩) M cE)∧w'.cell? ⟨bE,oE+k*3+1,none⟩=some (.string (strOf nm)))) (by kernel_rfl) ?_ (fun hS=> ?_)
         ·exact MJ.out _ (Below.refl _ _).drew
         refine bJ 1 (hS:=hS) (h:= ?_)
         refine bJ 2 (hS:=hS) (h:= ?_)
         refine bJ 3 (hS:=hS) (h:= ?_)
         refine bJ 4 (hS:=hS) (h:= ?_)
         refine bJ 6 (hS:=hS) (h:= ?_)
         refine bJ 7 (hS:=hS) (h:= ?_)
         refine bJ 8 (hS:=hS) (h:= ?_)
         refine bJ 9 (hS:=hS) (h:= ?_)
         refine bJ 10 (hS:=hS) (h:= ?_)
         refine bJ 11 (hS:=hS) (h:= ?_)
         refine bJ 12 (hS:=hS) (h:= ?_)
         refine bJ 13 (hS:=hS) (h:= ?_)
         refine ak (rs:=[0,14]) (by kernel_rfl) (by simp) ?_
         refine ah.cons (o:= ?o1) ?ho1 (fun K hK=> ?wa) (ah.cons (o:= ?o2) ?ho2 (fun K hK=> ?wb) ah.nil)
         case ho1=>simp only[List.getElem?_toArray,List.getElem?_cons_succ,List.getElem?_cons_zero];rfl
         case ho2=>simp only[List.getElem?_toArray,List.getElem?_cons_succ,List.getElem?_cons_zero];rfl
         case wa=>
          go_simp
          refine hK.out _ _ (fun _=>MJ.out _ ((Below.refl _ _).drew.alloc (Nat.le_refl _) _)) (fun hS=> ?_)
          replace hS:=hS (by decide)
          clear hK K
          try simp only[Act.put,List.setIfInBounds_toArray,List.set_cons_zero,List.set_cons_succ]
          refine ak (rs:=[5,14]) (by kernel_rfl) (by simp) ?_
          refine ah.cons (o:= ?o3) ?ho3 (fun K hK=> ?FE) (ah.cons (o:= ?o4) ?MG (fun K hK=> ?FH) ah.nil)
          case ho3=>simp only[List.getElem?_toArray,List.getElem?_cons_succ,List.getElem?_cons_zero];rfl
          case MG=>simp only[List.getElem?_toArray,List.getElem?_cons_succ,List.getElem?_cons_zero];rfl
          case FE=>
           refine av (by rfl) (.tmp 49) (.tmp 53) 26 (by rfl) wr.heap.size 9 i0 _ 1 16 Tryz.underlying26 HI.out.1 HI.out.2.1 HI.out.2.2.1 HI.out.2.2.2 rfl (by omega) _ 0 [] (by rfl) (dJ (MapKept.heap_alloc wr.drew _).1 (Nat.le_refl _)) _ nu _ ((u.map strOf).map .string) (by rfl) (by rw[Nat.mul_one];exact VY.out _ ((Below.refl _ _).drew.alloc (Nat.le_refl _) _)) (by simp[Value.oneCell']) (by unfold maxLen;omega) (by omega) (by simp) ?_
           intro A1 c1 u1 hown0 hb1
           have hB0:Below wr.heap.size wr u1:=((Below.refl _ _).drew.alloc (Nat.le_refl _) _).trans hb1
           refine hK.out _ _ (fun _=>MJ.out _ hB0) (fun hS=> ?_)
           replace hS:=hS (by decide)
           clear hK K
           try simp only[Act.put,List.setIfInBounds_toArray,List.set_cons_zero,List.set_cons_succ]
           refine kP 14 (h:=fun K hK=> ?_)
           go_simp
           refine hK.out _ _ (fun _=>MJ.out _ (hB0.alloc hB0.size _)) (fun hS=> ?_)
           replace hS:=hS (by decide)
           clear hK K
           try simp only[Act.put,List.setIfInBounds_toArray,List.set_cons_zero,List.set_cons_succ]
           rw[Nat.zero_add,List.nil_append]at hown0
           have hown1:=own_below hown0 ((Below.refl _ _).alloc (Nat.le_refl _) (.cells #[.string (strOf nm)] 9))
           have hrow:=ng (w:=u1) (.string (strOf nm)) 9
           have hB1:Below wr.heap.size wr (u1.alloc (.cells #[.string (strOf nm)] 9)):=hB0.alloc hB0.size _
           refine ak (rs:=[15]) (by kernel_rfl) (by simp) ?_
           refine ah.cons (o:= ?o5) ?QB (fun K hK=> ?_) ah.nil
           case QB=>simp only[List.getElem?_toArray,List.getElem?_cons_succ,List.getElem?_cons_zero];rfl
           refine av (by rfl) (.tmp 54) (.tmp 63) 26 (by rfl) wr.heap.size 9 i0 _ 1 16 Tryz.underlying26 HI.out.1 HI.out.2.1 HI.out.2.2.1 HI.out.2.2.2 rfl (by omega) _ _ _ (by rfl) hown1 _ 1 _ [.string (strOf nm)] (by rfl) hrow (by simp[Value.oneCell']) (by unfold maxLen;omega) (by omega) hB1.size ?_
           intro A2 c2 u2 hown2 hb2
           have hB2:Below wr.heap.size wr u2:=hB1.trans hb2
           refine hK.out _ _ (fun _=>MJ.out _ hB2) (fun hS=> ?_)
           replace hS:=hS (by decide)
           clear hK K
           try simp only[Act.put,List.setIfInBounds_toArray,List.set_cons_zero,List.set_cons_succ]
           refine kP 16 (h:=fun K hK=> ?_)
           go_simp
           refine hK.out _ _ (fun h=>absurd rfl h) (fun hS=> ?_)
           clear hS hK K
           try simp only[Act.put,List.setIfInBounds_toArray,List.set_cons_zero,List.set_cons_succ]
           refine bg (by kernel_rfl) ?_ _
           refine NoPanic.normal ?_
           go_wp2_with fail
           go_meet
           (try simp only[Nat.zero_add])
           exact⟨_,rfl,Bq hown2 VX.out HPT.out PV.out VZ.out,hB2⟩
          case FH=>
           go_simp
           refine hK.out _ _ (fun _=>MJ.out _ (((Below.refl _ _).drew.alloc (Nat.le_refl _) _).alloc (by simp<;>omega) _)) (fun hS=> ?_)
           replace hS:=hS (by decide)
           clear hK K
           try simp only[Act.put,List.setIfInBounds_toArray,List.set_cons_zero,List.set_cons_succ]
           refine ak (rs:=[5]) (by kernel_rfl) (by simp) ?_
           refine ah.cons (o:= ?o6) ?W9 (fun K hK=> ?_) ah.nil
           case W9=>simp only[List.getElem?_toArray,List.getElem?_cons_succ,List.getElem?_cons_zero];rfl
           refine bF (by rfl) (.tmp 49) (.tmp 53) 26 (by rfl) wr.heap.size 9 i0 _ 1 16 Tryz.underlying26 HI.out.1 HI.out.2.1 HI.out.2.2.1 HI.out.2.2.2 rfl (by omega) _ 0 [] (by rfl) (dJ (dM wr _ _).1 (Nat.le_refl _)) _ nu _ ((u.map strOf).map .string) (by rfl) (by rw[Nat.mul_one];exact VY.out _ (((Below.refl _ _).drew.alloc (Nat.le_refl _) _).alloc (by simp<;>omega) _)) (by simp[Value.oneCell']) (by unfold maxLen;omega) (by omega) (by simp<;>omega) ?_
           intro A1 c1 u1 hown1 hb1 hg1
           have hB1:Below wr.heap.size wr u1:=(((Below.refl _ _).drew.alloc (Nat.le_refl _) _).alloc (by simp<;>omega) _).trans hb1
           have hrow:=(gJ (vs:=[.string (strOf nm)]) (dM wr (.cells #[] 9) (.cells #[.string (strOf nm)] 9)).2 (by simp[maxLen])).grown hg1 (fun b hb hbw=>by subst hb;simp[Value.ownBlock])
           refine hK.out _ _ (fun _=>MJ.out _ hB1) (fun hS=> ?_)
           replace hS:=hS (by decide)
           clear hK K
           try simp only[Act.put,List.setIfInBounds_toArray,List.set_cons_zero,List.set_cons_succ]
           refine ak (rs:=[15]) (by kernel_rfl) (by simp) ?_
           refine ah.cons (o:= ?o7) ?W_ (fun K hK=> ?_) ah.nil
           case W_=>simp only[List.getElem?_toArray,List.getElem?_cons_succ,List.getElem?_cons_zero];rfl
           refine av (by rfl) (.tmp 54) (.tmp 63) 26 (by rfl) wr.heap.size 9 i0 _ 1 16 Tryz.underlying26 HI.out.1 HI.out.2.1 HI.out.2.2.1 HI.out.2.2.2 rfl (by omega) _ _ _ (by rfl) hown1 _ 1 _ [.string (strOf nm)] (by rfl) hrow (by simp[Value.oneCell']) (by unfold maxLen;omega) (by omega) hB1.size ?_
           intro A2 c2 u2 hown2 hb2
           rw[Nat.zero_add,List.nil_append]at hown2
           have hB2:Below wr.heap.size wr u2:=hB1.trans hb2
           refine hK.out _ _ (fun _=>MJ.out _ hB2) (fun hS=> ?_)
           replace hS:=hS (by decide)
           clear hK K
           try simp only[Act.put,List.setIfInBounds_toArray,List.set_cons_zero,List.set_cons_succ]
           refine kP 16 (h:=fun K hK=> ?_)
           go_simp
           refine hK.out _ _ (fun h=>absurd rfl h) (fun hS=> ?_)
           clear hS hK K
           try simp only[Act.put,List.setIfInBounds_toArray,List.set_cons_zero,List.set_cons_succ]
           refine bg (by kernel_rfl) ?_ _
           refine NoPanic.normal ?_
           go_wp2_with fail
           go_meet
           (try simp only[Nat.zero_add])
           exact⟨_,rfl,Bq hown2 VX.out HPT.out PV.out VZ.out,hB2⟩
         case wb=>
          go_simp
          refine hK.out _ _ (fun _=>MJ.out _ ((Below.refl _ _).drew.alloc (Nat.le_refl _) _)) (fun hS=> ?_)
          replace hS:=hS (by decide)
          clear hK K
          try simp only[Act.put,List.setIfInBounds_toArray,List.set_cons_zero,List.set_cons_succ]
          refine kP 0 (h:=fun K hK=> ?_)
          go_simp
          refine hK.out _ _ (fun _=>MJ.out _ (((Below.refl _ _).drew.alloc (Nat.le_refl _) _).alloc (by simp<;>omega) _)) (fun hS=> ?_)
          replace hS:=hS (by decide)
          clear hK K
          try simp only[Act.put,List.setIfInBounds_toArray,List.set_cons_zero,List.set_cons_succ]
          refine ak (rs:=[5]) (by kernel_rfl) (by simp) ?_
          refine ah.cons (o:= ?o8) ?SQ (fun K hK=> ?_) ah.nil
          case SQ=>simp only[List.getElem?_toArray,List.getElem?_cons_succ,List.getElem?_cons_zero];rfl
          refine bF (by rfl) (.tmp 49) (.tmp 53) 26 (by rfl) wr.heap.size 9 i0 _ 1 16 Tryz.underlying26 HI.out.1 HI.out.2.1 HI.out.2.2.1 HI.out.2.2.2 rfl (by omega) _ 0 [] (by rfl) (dJ (dM wr _ _).2 (Nat.le_succ _)) _ nu _ ((u.map strOf).map .string) (by rfl) (by rw[Nat.mul_one];exact VY.out _ (((Below.refl _ _).drew.alloc (Nat.le_refl _) _).alloc (by simp<;>omega) _)) (by simp[Value.oneCell']) (by unfold maxLen;omega) (by omega) (by simp<;>omega) ?_
          intro A1 c1 u1 hown1 hb1 hg1
          have hB1:Below wr.heap.size wr u1:=(((Below.refl _ _).drew.alloc (Nat.le_refl _) _).alloc (by simp<;>omega) _).trans hb1
          have hrow:=(gJ (vs:=[.string (strOf nm)]) (dM wr (.cells #[.string (strOf nm)] 9) (.cells #[] 9)).1 (by simp[maxLen])).grown hg1 (fun b hb hbw=>by subst hb;simp[Value.ownBlock])
          refine hK.out _ _ (fun _=>MJ.out _ hB1) (fun hS=> ?_)
          replace hS:=hS (by decide)
          clear hK K
          try simp only[Act.put,List.setIfInBounds_toArray,List.set_cons_zero,List.set_cons_succ]
          refine ak (rs:=[15]) (by kernel_rfl) (by simp) ?_
          refine ah.cons (o:= ?o9) ?Ui (fun K hK=> ?_) ah.nil
          case Ui=>simp only[List.getElem?_toArray,List.getElem?_cons_succ,List.getElem?_cons_zero];rfl
          refine av (by rfl) (.tmp 54) (.tmp 63) 26 (by rfl) wr.heap.size 9 i0 _ 1 16 Tryz.underlying26 HI.out.1 HI.out.2.1 HI.out.2.2.1 HI.out.2.2.2 rfl (by omega) _ _ _ (by rfl) hown1 _ 1 _ [.string (strOf nm)] (by rfl) hrow (by simp[Value.oneCell']) (by unfold maxLen;omega) (by omega) hB1.size ?_
          intro A2 c2 u2 hown2 hb2
          rw[Nat.zero_add,List.nil_append]at hown2
          have hB2:Below wr.heap.size wr u2:=hB1.trans hb2
          refine hK.out _ _ (fun _=>MJ.out _ hB2) (fun hS=> ?_)
          replace hS:=hS (by decide)
          clear hK K
          try simp only[Act.put,List.setIfInBounds_toArray,List.set_cons_zero,List.set_cons_succ]
          refine kP 16 (h:=fun K hK=> ?_)
          go_simp
          refine hK.out _ _ (fun h=>absurd rfl h) (fun hS=> ?_)
          clear hS hK K
          try simp only[Act.put,List.setIfInBounds_toArray,List.set_cons_zero,List.set_cons_succ]
          refine bg (by kernel_rfl) ?_ _
          refine NoPanic.normal ?_
          go_wp2_with fail
          go_meet
          (try simp only[Nat.zero_add])
          exact⟨_,rfl,Bq hown2 VX.out HPT.out PV.out VZ.out,hB2⟩
        case rest=>
         obtain⟨pv,rfl,hpv,hb3⟩:=hcut
         obtain⟨wp,rfl⟩:∃wp:World,wp=wr:=⟨_,rfl⟩
         obtain⟨w3,rfl⟩:∃w3:World,w3=wc:=⟨_,rfl⟩
         have hs3:=hb3.size
         have Uo:=Lib.hid (Ic.out.below hb3)
         obtain⟨aL,cL,rfl⟩:=Uo.out.form
         obtain⟨nL,Y9⟩:∃k,k=L.length:=⟨_,rfl⟩
         rw[←Y9]at hLl⊢
         have JM:=Lib.hid Y9
         have HB3:=Lib.hid hb3
         have HPV:=Lib.hid hpv
         have HJP:Hid (∀w',Below w3.heap.size w3 w'→Calls Tryz.prog 133 #[pv] w' fun e w''=>e= .returned (.string (A8 (bK uo)))∧Below w'.heap.size w' w''):=fun w' hb=>Bn (hpv.grow hb) Qb.out
         have HJL:Hid (∀(i:Nat) (q:List Nm) (pq:Value) (w':World),L[i]? =some q→fF (fun x=>w.heap.size≤x∧x<w'.heap.size) w' pq q→Calls Tryz.prog 133 #[pq] w' fun e w''=>e= .returned (.string (A8 (bK q)))∧Below w'.heap.size w' w''):=fun i q pq w' hi hp=>Bn hp (Z0.out q (List.mem_of_getElem? hi))
         obtain⟨sP,hsP⟩:∃s,s=A8 (bK uo):=⟨_,rfl⟩
         rw[←hsP]at HJP
         have HSPP:=Lib.hid hsP
         clear hb3 hpv Y9 hsP
         go_upto_block 4 with(fail)
         go_cut [10]from 65 to 80 (fun kv wx=>AtK L uo w3 kv wx)
         case first=>
          go_wp2_with fail
          go_loopw [10] (fun kv wr=>∃i:Nat,i≤nL∧kv= .int .i64 i∧(L.take i).all (fun q=>kJ q uo)=true∧Below w3.heap.size w3 wr) (fun kv _=>nL-(intOf kv).toNat)
          case atStart=>exact⟨0,Nat.zero_le _,rfl,by simp,Below.refl _ _⟩
          case round=>
           obtain⟨i,hi,rfl,hall,hB4⟩:=hrel
           have HA:=Lib.hid hall
           have eO:=Lib.hid hB4
           have hs4:=hB4.size
           by_cases hin:i<nL
           ·have hd3:decide (i<nL)=true:=by simpa using hin
            obtain⟨q,Yr⟩:∃q,L[i]? =some q:=⟨_,List.getElem?_eq_getElem (by have:=JM.out;omega)⟩
            obtain⟨bL,cL',qv,hqv,hbL,hcL,hpq⟩:=(Uo.out.below hB4).at_ Yr
            have hqv2:aL=some ⟨bL,0,none⟩∧cL=cL':=by
             simp only[Value.slice.injEq,true_and]at hqv
             exact hqv
            obtain⟨rfl,rfl⟩:=hqv2
            have HJQ:=Lib.hid (HJL.out i q qv wr Yr hpq)
            have i0':(0:Int)≤(i:Int):=by omega
            have YL:(i:Int)<(nL:Int):=by omega
            have hls:Op.bytesLess (A8 (bK q)).toList sP.toList=kJ q uo:=by
             rw[HSPP.out]
             exact(Ee _ _).trans (by rw[show(A8 (bK q)).toList=bK q from dV _,show(A8 (bK uo)).toList=bK uo from dV _];rfl)
            have HR:Hid (kJ q uo=true→(L.take (i+1)).all (fun q=>kJ q uo)=true):=fun h=>Ms HA.out Yr h
            have HE:Hid (∀wx,kJ q uo=false→Below w3.heap.size w3 wx→AtK L uo w3 (.int .i64 i) wx):=fun wx h hb=>PS (by have:=JM.out;omega) HA.out (fun x hx=>by rw[Yr]at hx;cases hx;exact h) hb
            have HIN:=Lib.hid hin
            clear hall hB4 Yr hqv hpq hin
            cases hpb:kJ q uo with
            |true=>
             rw[hpb]at hls
             have HR2:=Lib.hid (HR.out hpb)
             clear hpb HE HR
             go_wp2_with fail
             (with_reducible refine HJQ.out.mono ?_)
             rintro e w5 ⟨rfl,hb5⟩
             have iW:=Lib.hid (eO.out.trans (hb5.mono hs4))
             clear hb5
             go_wp2_with fail
             (with_reducible refine(HJP.out _ iW.out).mono ?_)
             rintro e w6 ⟨rfl,hb6⟩
             have ou:=Lib.hid (iW.out.trans (hb6.mono iW.out.size))
             clear hb6
             go_wp2_with fail
             go_roundw
             case rel=>exact⟨i+1,HIN.out,by go_num,HR2.out,ou.out⟩
             case measure=>have:=HIN.out;simp[intOf];omega
            |false=>
             rw[hpb]at hls
             have HE2:=Lib.hid (fun wx=>HE.out wx hpb)
             clear hpb HE HR
             go_wp2_with fail
             (with_reducible refine HJQ.out.mono ?_)
             rintro e w5 ⟨rfl,hb5⟩
             have iW:=Lib.hid (eO.out.trans (hb5.mono hs4))
             clear hb5
             go_wp2_with fail
             (with_reducible refine(HJP.out _ iW.out).mono ?_)
             rintro e w6 ⟨rfl,hb6⟩
             have ou:=Lib.hid (iW.out.trans (hb6.mono iW.out.size))
             clear hb6
             go_wp2_with fail
             go_meet
             exact HE2.out _ ou.out
           ·have hd3:decide (i<nL)=false:=by simpa using hin
            have HE:Hid (AtK L uo w3 (.int .i64 i) wr):=PS (by have:=JM.out;omega) hall (fun x hx=>by
             rw[List.getElem?_eq_none (by have:=JM.out;omega)]at hx
             cases hx) hB4
            clear hall hB4 hin
            go_wp2_with fail
            go_meet
            exact HE.out
         case rest=>
          obtain⟨i,hi,rfl,hins,hB4⟩:=hcut
          obtain⟨w4,rfl⟩:∃w4:World,w4=wc:=⟨_,rfl⟩
          have hs4:=hB4.size
          have Yt:=Lib.hid (Uo.out.below hB4)
          have Yu:=Lib.hid ((HPV.out.grow hB4).weak (S':=fun b=>w.heap.size≤b∧b<w4.heap.size) fun b hbw hb=>⟨by omega,hbw⟩)
          have eO:Hid (Below w1.heap.size w1 w4):=HB2.out.trans ((HB3.out.trans (hB4.mono hs3)).mono hs2)
          have HINS:=Lib.hid hins
          have Yv:i≤nL:=by have:=JM.out;omega
          have hi0:(0:Int)≤(i:Int):=by omega
          have hi1:(i:Int)≤(nL:Int):=by omega
          obtain⟨i1,hj,hjz,hj1,hj2⟩:=info_parts Mt
          have jD:=Lib.hid (And.intro hj (And.intro hjz (And.intro hj1 hj2)))
          clear hj hjz hj1 hj2
          have hw4:w.heap.size≤w4.heap.size:=by have:=eO.out.size;omega
          have Ri:Hid (∀(A:Option Addr) (c:Nat) (wx:World) (vals:List Value),Below w4.heap.size w4 wx→wx.ownsRow w4.heap.size 26 1 (.slice A (nL+1) c) (nL+1) (vals.take i++[pv]++vals.drop i)→iU (fun b=>w.heap.size≤b∧b<w4.heap.size) w4 vals L→fM w.heap.size (JA T n id k e (j+1)) (.slice A (nL+1) c) wx∧Below w1.heap.size w1 wx):=fun A c wx vals hb ho hv=>by
           rw[Yq.out,HINS.out]
           exact⟨Mv JM.out Yv hw4 hb ho hv Yu.out,eO.out.trans (hb.mono eO.out.size)⟩
          clear hins hB4
          obtain⟨aP,cP,hpe,hcP,hstP⟩:=HPV.out
          subst hpe
          obtain⟨lp,hlp⟩:∃k,k=uo.length:=⟨_,rfl⟩
          rw[←hlp]at Ri Yu⊢
          obtain⟨a0,c0,vals,he0,MG,hv4⟩:=Yt.out
          rw[←JM.out]at he0 MG
          simp only[Value.slice.injEq,true_and]at he0
          obtain⟨rfl,rfl⟩:=he0
          have Yw:=Lib.hid hv4
          have hvl:vals.length=nL:=by rw[hv4.1,JM.out]
          have Le:=Lib.hid hvl
          clear hlp hcP hstP hv4
          rcases MG.2 with⟨he1,hn0⟩|⟨g,cap,cur,he1,hg,hcur,hcap,hmx,hsz,htk⟩
          ·have h9:aL=none∧nL=0∧cL=0:=by
            simp only[Value.slice.injEq]at he1
            exact⟨he1.1,he1.2.1,he1.2.2⟩
           obtain⟨rfl,rfl,rfl⟩:=h9
           obtain rfl:i=0:=by omega
           obtain rfl:vals=[]:=List.eq_nil_of_length_eq_zero hvl
           have V3:Hid (∀(A:Option Addr) (c:Nat) (wx:World),Below w4.heap.size w4 wx→wx.ownsRow w4.heap.size 26 1 (.slice A 1 c) 1 [.slice aP lp cP]→fM w.heap.size (JA T n id k e (j+1)) (.slice A 1 c) wx∧Below w1.heap.size w1 wx):=fun A c wx hb ho=>Ri.out A c wx [] hb ho Yw.out
           clear MG he1 hn0 hvl Le Yt Uo Ic
           go_wp2_with fail
           refine wp_region_noPanic ?_
           refine dZ (last:=12) (S:=(fun _=>True)) (by kernel_rfl) ?_ (fun hS=> ?_)
           ·trivial
           refine bJ 1 (hS:=hS) (h:= ?_)
           refine bJ 2 (hS:=hS) (h:= ?_)
           refine bJ 3 (hS:=hS) (h:= ?_)
           refine bJ 5 (hS:=hS) (h:= ?_)
           refine bJ 8 (hS:=hS) (h:= ?_)
           refine bJ 9 (hS:=hS) (h:= ?_)
           refine bJ 10 (hS:=hS) (h:= ?_)
           refine ak (rs:=[0,6]) (by kernel_rfl) (by simp) ?_
           refine ah.cons (o:= ?o10) ?NC (fun K hK=> ?wa) (ah.cons (o:= ?o11) ?ND (fun K hK=> ?wb) ah.nil)
           case NC=>simp only[List.getElem?_toArray,List.getElem?_cons_succ,List.getElem?_cons_zero];rfl
           case ND=>simp only[List.getElem?_toArray,List.getElem?_cons_succ,List.getElem?_cons_zero];rfl
           case wa=>
            go_simp
            refine hK.out _ _ (fun _=>trivial) (fun hS=> ?_)
            replace hS:=hS (by decide)
            clear hK K
            try simp only[Act.put,List.setIfInBounds_toArray,List.set_cons_zero,List.set_cons_succ]
            refine ak (rs:=[4,6]) (by kernel_rfl) (by simp) ?_
            refine ah.cons (o:= ?o12) ?NG (fun K hK=> ?FE) (ah.cons (o:= ?o13) ?NI (fun K hK=> ?FH) ah.nil)
            case NG=>simp only[List.getElem?_toArray,List.getElem?_cons_succ,List.getElem?_cons_zero];rfl
            case NI=>simp only[List.getElem?_toArray,List.getElem?_cons_succ,List.getElem?_cons_zero];rfl
            case FE=>
             refine av (by rfl) (.tmp 81) (.tmp 84) 27 (by rfl) w4.heap.size 26 i1 _ 1 24 Tryz.underlying27 jD.out.1 jD.out.2.1 jD.out.2.2.1 jD.out.2.2.2 rfl (by omega) _ 0 [] (by rfl) (dJ (MapKept.heap_alloc w4.drew _).1 (Nat.le_refl _)) _ 0 _ [] (by rfl) (aC.nil (fun _=>True) _ _) (by simp) (by unfold maxLen;omega) (by omega) (by simp) ?_
             intro A1 c1 u1 hown0 hb1
             have hB0:Below w4.heap.size w4 u1:=((Below.refl _ _).drew.alloc (Nat.le_refl _) _).trans hb1
             refine hK.out _ _ (fun _=>trivial) (fun hS=> ?_)
             replace hS:=hS (by decide)
             clear hK K
             try simp only[Act.put,List.setIfInBounds_toArray,List.set_cons_zero,List.set_cons_succ]
             refine kP 6 (h:=fun K hK=> ?_)
             go_simp
             refine hK.out _ _ (fun _=>trivial) (fun hS=> ?_)
             replace hS:=hS (by decide)
             clear hK K
             try simp only[Act.put,List.setIfInBounds_toArray,List.set_cons_zero,List.set_cons_succ]
             rw[Nat.zero_add,List.nil_append]at hown0
             have hown1:=own_below hown0 ((Below.refl _ _).alloc (Nat.le_refl _) (.cells #[.slice aP lp cP] 26))
             have hrow:=ng (w:=u1) (.slice aP lp cP) 26
             have hB1:Below w4.heap.size w4 (u1.alloc (.cells #[.slice aP lp cP] 26)):=hB0.alloc hB0.size _
             refine ak (rs:=[7]) (by kernel_rfl) (by simp) ?_
             refine ah.cons (o:= ?o14) ?NJ (fun K hK=> ?_) ah.nil
             case NJ=>simp only[List.getElem?_toArray,List.getElem?_cons_succ,List.getElem?_cons_zero];rfl
             refine av (by rfl) (.tmp 85) (.tmp 87) 27 (by rfl) w4.heap.size 26 i1 _ 1 24 Tryz.underlying27 jD.out.1 jD.out.2.1 jD.out.2.2.1 jD.out.2.2.2 rfl (by omega) _ _ _ (by rfl) hown1 _ 1 _ [.slice aP lp cP] (by rfl) hrow (by simp[Value.oneCell']) (by unfold maxLen;omega) (by omega) hB1.size ?_
             intro A2 c2 u2 hown2 hb2
             have hB2:Below w4.heap.size w4 u2:=hB1.trans hb2
             refine hK.out _ _ (fun _=>trivial) (fun hS=> ?_)
             replace hS:=hS (by decide)
             clear hK K
             try simp only[Act.put,List.setIfInBounds_toArray,List.set_cons_zero,List.set_cons_succ]
             refine ak (rs:=[11]) (by kernel_rfl) (by simp) ?_
             refine ah.cons (o:= ?o15) ?NK (fun K hK=> ?_) ah.nil
             case NK=>simp only[List.getElem?_toArray,List.getElem?_cons_succ,List.getElem?_cons_zero];rfl
             refine av (by rfl) (.tmp 88) (.tmp 91) 27 (by rfl) w4.heap.size 26 i1 _ 1 24 Tryz.underlying27 jD.out.1 jD.out.2.1 jD.out.2.2.1 jD.out.2.2.2 rfl (by omega) _ _ _ (by rfl) hown2 _ 0 _ [] (by rfl) (aC.nil (fun _=>True) _ _) (by simp) (by unfold maxLen;omega) (by omega) hB2.size ?_
             intro A3 c3 u3 hown3 hb3
             have hB3:Below w4.heap.size w4 u3:=hB2.trans hb3
             refine hK.out _ _ (fun _=>trivial) (fun hS=> ?_)
             replace hS:=hS (by decide)
             clear hK K
             try simp only[Act.put,List.setIfInBounds_toArray,List.set_cons_zero,List.set_cons_succ]
             refine kP 12 (h:=fun K hK=> ?_)
             go_simp
             refine hK.out _ _ (fun h=>absurd rfl h) (fun hS=> ?_)
             clear hS hK K
             try simp only[Act.put,List.setIfInBounds_toArray,List.set_cons_zero,List.set_cons_succ]
             refine bg (by kernel_rfl) ?_ _
             refine NoPanic.normal ?_
             go_wp2_with fail
             have H8:=Lib.hid (V3.out _ _ _ hB3 (by simpa using hown3))
             go_roundw
             case rel=>exact⟨j+1,HJ.out,by go_num,H8.out.1,H8.out.2⟩
             case measure=>have:=HJ.out;simp[intOf];omega
            case FH=>
             go_simp
             refine hK.out _ _ (fun _=>trivial) (fun hS=> ?_)
             replace hS:=hS (by decide)
             clear hK K
             try simp only[Act.put,List.setIfInBounds_toArray,List.set_cons_zero,List.set_cons_succ]
             refine ak (rs:=[4]) (by kernel_rfl) (by simp) ?_
             refine ah.cons (o:= ?o16) ?NM (fun K hK=> ?_) ah.nil
             case NM=>simp only[List.getElem?_toArray,List.getElem?_cons_succ,List.getElem?_cons_zero];rfl
             refine bF (by rfl) (.tmp 81) (.tmp 84) 27 (by rfl) w4.heap.size 26 i1 _ 1 24 Tryz.underlying27 jD.out.1 jD.out.2.1 jD.out.2.2.1 jD.out.2.2.2 rfl (by omega) _ 0 [] (by rfl) (dJ (dM w4 _ _).1 (Nat.le_refl _)) _ 0 _ [] (by rfl) (aC.nil (fun _=>True) _ _) (by simp) (by unfold maxLen;omega) (by omega) (by simp<;>omega) ?_
             intro A1 c1 u1 hown1 hb1 hg1
             have hB1:Below w4.heap.size w4 u1:=(((Below.refl _ _).drew.alloc (Nat.le_refl _) _).alloc (by simp<;>omega) _).trans hb1
             have hrow:=(gJ (vs:=[.slice aP lp cP]) (dM w4 (.cells #[] 26) (.cells #[.slice aP lp cP] 26)).2 (by simp[maxLen])).grown hg1 (fun b hb hbw=>by subst hb;simp[Value.ownBlock])
             refine hK.out _ _ (fun _=>trivial) (fun hS=> ?_)
             replace hS:=hS (by decide)
             clear hK K
             try simp only[Act.put,List.setIfInBounds_toArray,List.set_cons_zero,List.set_cons_succ]
             refine ak (rs:=[7]) (by kernel_rfl) (by simp) ?_
             refine ah.cons (o:= ?o17) ?NP (fun K hK=> ?_) ah.nil
             case NP=>simp only[List.getElem?_toArray,List.getElem?_cons_succ,List.getElem?_cons_zero];rfl
             refine av (by rfl) (.tmp 85) (.tmp 87) 27 (by rfl) w4.heap.size 26 i1 _ 1 24 Tryz.underlying27 jD.out.1 jD.out.2.1 jD.out.2.2.1 jD.out.2.2.2 rfl (by omega) _ _ _ (by rfl) hown1 _ 1 _ [.slice aP lp cP] (by rfl) hrow (by simp[Value.oneCell']) (by unfold maxLen;omega) (by omega) hB1.size ?_
             intro A2 c2 u2 hown2 hb2
             have hB2:Below w4.heap.size w4 u2:=hB1.trans hb2
             refine hK.out _ _ (fun _=>trivial) (fun hS=> ?_)
             replace hS:=hS (by decide)
             clear hK K
             try simp only[Act.put,List.setIfInBounds_toArray,List.set_cons_zero,List.set_cons_succ]
             refine ak (rs:=[11]) (by kernel_rfl) (by simp) ?_
             refine ah.cons (o:= ?o18) ?NQ (fun K hK=> ?_) ah.nil
             case NQ=>simp only[List.getElem?_toArray,List.getElem?_cons_succ,List.getElem?_cons_zero];rfl
             refine av (by rfl) (.tmp 88) (.tmp 91) 27 (by rfl) w4.heap.size 26 i1 _ 1 24 Tryz.underlying27 jD.out.1 jD.out.2.1 jD.out.2.2.1 jD.out.2.2.2 rfl (by omega) _ _ _ (by rfl) hown2 _ 0 _ [] (by rfl) (aC.nil (fun _=>True) _ _) (by simp) (by unfold maxLen;omega) (by omega) hB2.size ?_
             intro A3 c3 u3 hown3 hb3
             have hB3:Below w4.heap.size w4 u3:=hB2.trans hb3
             refine hK.out _ _ (fun _=>trivial) (fun hS=> ?_)
             replace hS:=hS (by decide)
             clear hK K
             try simp only[Act.put,List.setIfInBounds_toArray,List.set_cons_zero,List.set_cons_succ]
             refine kP 12 (h:=fun K hK=> ?_)
             go_simp
             refine hK.out _ _ (fun h=>absurd rfl h) (fun hS=> ?_)
             clear hS hK K
             try simp only[Act.put,List.setIfInBounds_toArray,List.set_cons_zero,List.set_cons_succ]
             refine bg (by kernel_rfl) ?_ _
             refine NoPanic.normal ?_
             go_wp2_with fail
             have H8:=Lib.hid (V3.out _ _ _ hB3 (by simpa using hown3))
             go_roundw
             case rel=>exact⟨j+1,HJ.out,by go_num,H8.out.1,H8.out.2⟩
             case measure=>have:=HJ.out;simp[intOf];omega
           case wb=>
            go_simp
            refine hK.out _ _ (fun _=>trivial) (fun hS=> ?_)
            replace hS:=hS (by decide)
            clear hK K
            try simp only[Act.put,List.setIfInBounds_toArray,List.set_cons_zero,List.set_cons_succ]
            refine kP 0 (h:=fun K hK=> ?_)
            go_simp
            refine hK.out _ _ (fun _=>trivial) (fun hS=> ?_)
            replace hS:=hS (by decide)
            clear hK K
            try simp only[Act.put,List.setIfInBounds_toArray,List.set_cons_zero,List.set_cons_succ]
            refine ak (rs:=[4]) (by kernel_rfl) (by simp) ?_
            refine ah.cons (o:= ?o19) ?NR (fun K hK=> ?_) ah.nil
            case NR=>simp only[List.getElem?_toArray,List.getElem?_cons_succ,List.getElem?_cons_zero];rfl
            refine bF (by rfl) (.tmp 81) (.tmp 84) 27 (by rfl) w4.heap.size 26 i1 _ 1 24 Tryz.underlying27 jD.out.1 jD.out.2.1 jD.out.2.2.1 jD.out.2.2.2 rfl (by omega) _ 0 [] (by rfl) (dJ (dM w4 _ _).2 (Nat.le_succ _)) _ 0 _ [] (by rfl) (aC.nil (fun _=>True) _ _) (by simp) (by unfold maxLen;omega) (by omega) (by simp<;>omega) ?_
            intro A1 c1 u1 hown1 hb1 hg1
            have hB1:Below w4.heap.size w4 u1:=(((Below.refl _ _).drew.alloc (Nat.le_refl _) _).alloc (by simp<;>omega) _).trans hb1
            have hrow:=(gJ (vs:=[.slice aP lp cP]) (dM w4 (.cells #[.slice aP lp cP] 26) (.cells #[] 26)).1 (by simp[maxLen])).grown hg1 (fun b hb hbw=>by subst hb;simp[Value.ownBlock])
            refine hK.out _ _ (fun _=>trivial) (fun hS=> ?_)
            replace hS:=hS (by decide)
            clear hK K
            try simp only[Act.put,List.setIfInBounds_toArray,List.set_cons_zero,List.set_cons_succ]
            refine ak (rs:=[7]) (by kernel_rfl) (by simp) ?_
            refine ah.cons (o:= ?o20) ?NS (fun K hK=> ?_) ah.nil
            case NS=>simp only[List.getElem?_toArray,List.getElem?_cons_succ,List.getElem?_cons_zero];rfl
            refine av (by rfl) (.tmp 85) (.tmp 87) 27 (by rfl) w4.heap.size 26 i1 _ 1 24 Tryz.underlying27 jD.out.1 jD.out.2.1 jD.out.2.2.1 jD.out.2.2.2 rfl (by omega) _ _ _ (by rfl) hown1 _ 1 _ [.slice aP lp cP] (by rfl) hrow (by simp[Value.oneCell']) (by unfold maxLen;omega) (by omega) hB1.size ?_
            intro A2 c2 u2 hown2 hb2
            have hB2:Below w4.heap.size w4 u2:=hB1.trans hb2
            refine hK.out _ _ (fun _=>trivial) (fun hS=> ?_)
            replace hS:=hS (by decide)
            clear hK K
            try simp only[Act.put,List.setIfInBounds_toArray,List.set_cons_zero,List.set_cons_succ]
            refine ak (rs:=[11]) (by kernel_rfl) (by simp) ?_
            refine ah.cons (o:= ?o21) ?NT (fun K hK=> ?_) ah.nil
            case NT=>simp only[List.getElem?_toArray,List.getElem?_cons_succ,List.getElem?_cons_zero];rfl
            refine av (by rfl) (.tmp 88) (.tmp 91) 27 (by rfl) w4.heap.size 26 i1 _ 1 24 Tryz.underlying27 jD.out.1 jD.out.2.1 jD.out.2.2.1 jD.out.2.2.2 rfl (by omega) _ _ _ (by rfl) hown2 _ 0 _ [] (by rfl) (aC.nil (fun _=>True) _ _) (by simp) (by unfold maxLen;omega) (by omega) hB2.size ?_
            intro A3 c3 u3 hown3 hb3
            have hB3:Below w4.heap.size w4 u3:=hB2.trans hb3
            refine hK.out _ _ (fun _=>trivial) (fun hS=> ?_)
            replace hS:=hS (by decide)
            clear hK K
            try simp only[Act.put,List.setIfInBounds_toArray,List.set_cons_zero,List.set_cons_succ]
            refine kP 12 (h:=fun K hK=> ?_)
            go_simp
            refine hK.out _ _ (fun h=>absurd rfl h) (fun hS=> ?_)
            clear hS hK K
            try simp only[Act.put,List.setIfInBounds_toArray,List.set_cons_zero,List.set_cons_succ]
            refine bg (by kernel_rfl) ?_ _
            refine NoPanic.normal ?_
            go_wp2_with fail
            have H8:=Lib.hid (V3.out _ _ _ hB3 (by simpa using hown3))
            go_roundw
            case rel=>exact⟨j+1,HJ.out,by go_num,H8.out.1,H8.out.2⟩
            case measure=>have:=HJ.out;simp[intOf];omega
          ·have h9:aL=some ⟨g,0,none⟩∧cL=cap:=by
            simp only[Value.slice.injEq,true_and]at he1
            exact he1
           obtain⟨rfl,rfl⟩:=h9
           have hro:aC (fun x=>x=g) w4 (some ⟨g,0,none⟩) nL vals:=⟨hvl,by omega,fun h0=>⟨g,0,rfl,rfl,(Array.getElem?_eq_some_iff.1 hcur).1,fun m hm=>by
            simp only[World.cell?,hcur,Nat.zero_add]
            rw[←htk,List.getElem?_take,if_pos (show m<nL*1 by omega)]
            simp⟩⟩
           have oq:Hid (∀wx,Below w4.heap.size w4 wx→aC (fun x=>x=g) wx (some ⟨g,0,none⟩) (i*1) (vals.take i)∧aC (fun x=>x=g) wx (if cL=i then some ⟨g,0,none⟩else some ⟨g,i,none⟩) ((nL-i)*1) (vals.drop i)):=fun wx hb=>by
            have h1:=hro.below hb (Nat.le_refl _)
            have h2:=h1.take i
            rw[Nat.min_eq_right Yv]at h2
            have h3:=h1.drop i
            rw[Nat.zero_add]at h3
            rw[Nat.mul_one,Nat.mul_one]
            refine⟨h2,?_⟩
            by_cases hce:cL=i
            ·rw[if_pos hce]
             exact aC.zero _ _ _ (by omega) (by rw[List.drop_of_length_le (by omega)])
            ·rw[if_neg hce];exact h3
           have YP:Hid (∀u∈vals,u.oneCell'=true):=fun u hu=>by
            obtain⟨m,hm,rfl⟩:=List.mem_iff_getElem.1 hu
            obtain⟨u9,h8,h9⟩:=Yw.out.2 m (L[m]'(by have:=JM.out;omega)) (List.getElem?_eq_getElem _)
            obtain⟨a9,c9,h7,-⟩:=h9
            rw[List.getElem?_eq_getElem hm]at h8
            simp only[Option.some.injEq]at h8
            rw[h8,h7]
            rfl
           have HT1:Hid (∀u∈vals.take i,u.oneCell'=true):=fun u hu=>YP.out u (List.mem_of_mem_take hu)
           have HD1:Hid (∀u∈vals.drop i,u.oneCell'=true):=fun u hu=>YP.out u (List.mem_of_mem_drop hu)
           have hi2:(i:Int)≤(cL:Int):=by omega
           have hi3:(nL:Int)≤(cL:Int):=by omega
           clear MG he1 hvl Yt Uo Ic hro hcur htk hsz hmx
           go_wp2_with fail
           refine wp_region_noPanic ?_
           refine dZ (last:=12) (S:=(fun _=>True)) (by kernel_rfl) ?_ (fun hS=> ?_)
           ·trivial
           refine bJ 1 (hS:=hS) (h:= ?_)
           refine bJ 2 (hS:=hS) (h:= ?_)
           refine bJ 3 (hS:=hS) (h:= ?_)
           refine bJ 5 (hS:=hS) (h:= ?_)
           refine bJ 8 (hS:=hS) (h:= ?_)
           refine bJ 9 (hS:=hS) (h:= ?_)
           refine bJ 10 (hS:=hS) (h:= ?_)
           refine ak (rs:=[0,6]) (by kernel_rfl) (by simp) ?_
           refine ah.cons (o:= ?o22) ?NU (fun K hK=> ?wa) (ah.cons (o:= ?o23) ?NV (fun K hK=> ?wb) ah.nil)
           case NU=>simp only[List.getElem?_toArray,List.getElem?_cons_succ,List.getElem?_cons_zero];rfl
           case NV=>simp only[List.getElem?_toArray,List.getElem?_cons_succ,List.getElem?_cons_zero];rfl
           case wa=>
            go_simp
            refine hK.out _ _ (fun _=>trivial) (fun hS=> ?_)
            replace hS:=hS (by decide)
            clear hK K
            try simp only[Act.put,List.setIfInBounds_toArray,List.set_cons_zero,List.set_cons_succ]
            refine ak (rs:=[4,6]) (by kernel_rfl) (by simp) ?_
            refine ah.cons (o:= ?o24) ?NW (fun K hK=> ?FE) (ah.cons (o:= ?o25) ?UA (fun K hK=> ?FH) ah.nil)
            case NW=>simp only[List.getElem?_toArray,List.getElem?_cons_succ,List.getElem?_cons_zero];rfl
            case UA=>simp only[List.getElem?_toArray,List.getElem?_cons_succ,List.getElem?_cons_zero];rfl
            case FE=>
             refine av (by rfl) (.tmp 81) (.tmp 84) 27 (by rfl) w4.heap.size 26 i1 _ 1 24 Tryz.underlying27 jD.out.1 jD.out.2.1 jD.out.2.2.1 jD.out.2.2.2 rfl (by omega) _ 0 [] (by rfl) (dJ (MapKept.heap_alloc w4.drew _).1 (Nat.le_refl _)) _ i _ (vals.take i) (by rfl) (oq.out _ ((Below.refl _ _).drew.alloc (Nat.le_refl _) _)).1 HT1.out (by unfold maxLen;omega) (by omega) (by simp) ?_
             intro A1 c1 u1 hown0 hb1
             have hB0:Below w4.heap.size w4 u1:=((Below.refl _ _).drew.alloc (Nat.le_refl _) _).trans hb1
             refine hK.out _ _ (fun _=>trivial) (fun hS=> ?_)
             replace hS:=hS (by decide)
             clear hK K
             try simp only[Act.put,List.setIfInBounds_toArray,List.set_cons_zero,List.set_cons_succ]
             refine kP 6 (h:=fun K hK=> ?_)
             go_simp
             refine hK.out _ _ (fun _=>trivial) (fun hS=> ?_)
             replace hS:=hS (by decide)
             clear hK K
             try simp only[Act.put,List.setIfInBounds_toArray,List.set_cons_zero,List.set_cons_succ]
             rw[Nat.zero_add,List.nil_append]at hown0
             have hown1:=own_below hown0 ((Below.refl _ _).alloc (Nat.le_refl _) (.cells #[.slice aP lp cP] 26))
             have hrow:=ng (w:=u1) (.slice aP lp cP) 26
             have hB1:Below w4.heap.size w4 (u1.alloc (.cells #[.slice aP lp cP] 26)):=hB0.alloc hB0.size _
             refine ak (rs:=[7]) (by kernel_rfl) (by simp) ?_
             refine ah.cons (o:= ?o26) ?UC (fun K hK=> ?_) ah.nil
             case UC=>simp only[List.getElem?_toArray,List.getElem?_cons_succ,List.getElem?_cons_zero];rfl
             refine av (by rfl) (.tmp 85) (.tmp 87) 27 (by rfl) w4.heap.size 26 i1 _ 1 24 Tryz.underlying27 jD.out.1 jD.out.2.1 jD.out.2.2.1 jD.out.2.2.2 rfl (by omega) _ _ _ (by rfl) hown1 _ 1 _ [.slice aP lp cP] (by rfl) hrow (by simp[Value.oneCell']) (by unfold maxLen;omega) (by omega) hB1.size ?_
             intro A2 c2 u2 hown2 hb2
             have hB2:Below w4.heap.size w4 u2:=hB1.trans hb2
             refine hK.out _ _ (fun _=>trivial) (fun hS=> ?_)
             replace hS:=hS (by decide)
             clear hK K
             try simp only[Act.put,List.setIfInBounds_toArray,List.set_cons_zero,List.set_cons_succ]
             refine ak (rs:=[11]) (by kernel_rfl) (by simp) ?_
             refine ah.cons (o:= ?o27) ?UD (fun K hK=> ?_) ah.nil
             case UD=>simp only[List.getElem?_toArray,List.getElem?_cons_succ,List.getElem?_cons_zero];rfl
             refine av (by rfl) (.tmp 88) (.tmp 91) 27 (by rfl) w4.heap.size 26 i1 _ 1 24 Tryz.underlying27 jD.out.1 jD.out.2.1 jD.out.2.2.1 jD.out.2.2.2 rfl (by omega) _ _ _ (by rfl) hown2 _ (nL-i) _ (vals.drop i) (by rfl) (oq.out _ hB2).2 HD1.out (by unfold maxLen;omega) (by omega) hB2.size ?_
             intro A3 c3 u3 hown3 hb3
             have hB3:Below w4.heap.size w4 u3:=hB2.trans hb3
             refine hK.out _ _ (fun _=>trivial) (fun hS=> ?_)
             replace hS:=hS (by decide)
             clear hK K
             try simp only[Act.put,List.setIfInBounds_toArray,List.set_cons_zero,List.set_cons_succ]
             refine kP 12 (h:=fun K hK=> ?_)
             go_simp
             refine hK.out _ _ (fun h=>absurd rfl h) (fun hS=> ?_)
             clear hS hK K
             try simp only[Act.put,List.setIfInBounds_toArray,List.set_cons_zero,List.set_cons_succ]
             refine bg (by kernel_rfl) ?_ _
             refine NoPanic.normal ?_
             go_wp2_with fail
             (try simp only[Nat.zero_add]at hown3)
             have h8:=Ri.out _ _ _ _ hB3 (JB hown3 Yv) Yw.out
             rw[show nL+1=i+1+(nL-i)by omega]at h8
             have H8:=Lib.hid h8
             clear h8
             (try simp only[Nat.zero_add])
             go_roundw
             case rel=>exact⟨j+1,HJ.out,by go_num,H8.out.1,H8.out.2⟩
             case measure=>have:=HJ.out;simp[intOf];omega
            case FH=>
             go_simp
             refine hK.out _ _ (fun _=>trivial) (fun hS=> ?_)
             replace hS:=hS (by decide)
             clear hK K
             try simp only[Act.put,List.setIfInBounds_toArray,List.set_cons_zero,List.set_cons_succ]
             refine ak (rs:=[4]) (by kernel_rfl) (by simp) ?_
             refine ah.cons (o:= ?o28) ?UE (fun K hK=> ?_) ah.nil
             case UE=>simp only[List.getElem?_toArray,List.getElem?_cons_succ,List.getElem?_cons_zero];rfl
             refine bF (by rfl) (.tmp 81) (.tmp 84) 27 (by rfl) w4.heap.size 26 i1 _ 1 24 Tryz.underlying27 jD.out.1 jD.out.2.1 jD.out.2.2.1 jD.out.2.2.2 rfl (by omega) _ 0 [] (by rfl) (dJ (dM w4 _ _).1 (Nat.le_refl _)) _ i _ (vals.take i) (by rfl) (oq.out _ (((Below.refl _ _).drew.alloc (Nat.le_refl _) _).alloc (by simp<;>omega) _)).1 HT1.out (by unfold maxLen;omega) (by omega) (by simp<;>omega) ?_
             intro A1 c1 u1 hown1 hb1 hg1
             have hB1:Below w4.heap.size w4 u1:=(((Below.refl _ _).drew.alloc (Nat.le_refl _) _).alloc (by simp<;>omega) _).trans hb1
             have hrow:=(gJ (vs:=[.slice aP lp cP]) (dM w4 (.cells #[] 26) (.cells #[.slice aP lp cP] 26)).2 (by simp[maxLen])).grown hg1 (fun b hb hbw=>by subst hb;simp[Value.ownBlock])
             refine hK.out _ _ (fun _=>trivial) (fun hS=> ?_)
             replace hS:=hS (by decide)
             clear hK K
             try simp only[Act.put,List.setIfInBounds_toArray,List.set_cons_zero,List.set_cons_succ]
             refine ak (rs:=[7]) (by kernel_rfl) (by simp) ?_
             refine ah.cons (o:= ?o29) ?UF (fun K hK=> ?_) ah.nil
             case UF=>simp only[List.getElem?_toArray,List.getElem?_cons_succ,List.getElem?_cons_zero];rfl
             refine av (by rfl) (.tmp 85) (.tmp 87) 27 (by rfl) w4.heap.size 26 i1 _ 1 24 Tryz.underlying27 jD.out.1 jD.out.2.1 jD.out.2.2.1 jD.out.2.2.2 rfl (by omega) _ _ _ (by rfl) hown1 _ 1 _ [.slice aP lp cP] (by rfl) hrow (by simp[Value.oneCell']) (by unfold maxLen;omega) (by omega) hB1.size ?_
             intro A2 c2 u2 hown2 hb2
             have hB2:Below w4.heap.size w4 u2:=hB1.trans hb2
             refine hK.out _ _ (fun _=>trivial) (fun hS=> ?_)
             replace hS:=hS (by decide)
             clear hK K
             try simp only[Act.put,List.setIfInBounds_toArray,List.set_cons_zero,List.set_cons_succ]
             refine ak (rs:=[11]) (by kernel_rfl) (by simp) ?_
             refine ah.cons (o:= ?o30) ?UG (fun K hK=> ?_) ah.nil
             case UG=>simp only[List.getElem?_toArray,List.getElem?_cons_succ,List.getElem?_cons_zero];rfl
             refine av (by rfl) (.tmp 88) (.tmp 91) 27 (by rfl) w4.heap.size 26 i1 _ 1 24 Tryz.underlying27 jD.out.1 jD.out.2.1 jD.out.2.2.1 jD.out.2.2.2 rfl (by omega) _ _ _ (by rfl) hown2 _ (nL-i) _ (vals.drop i) (by rfl) (oq.out _ hB2).2 HD1.out (by unfold maxLen;omega) (by omega) hB2.size ?_
             intro A3 c3 u3 hown3 hb3
             have hB3:Below w4.heap.size w4 u3:=hB2.trans hb3
             refine hK.out _ _ (fun _=>trivial) (fun hS=> ?_)
             replace hS:=hS (by decide)
             clear hK K
             try simp only[Act.put,List.setIfInBounds_toArray,List.set_cons_zero,List.set_cons_succ]
             refine kP 12 (h:=fun K hK=> ?_)
             go_simp
             refine hK.out _ _ (fun h=>absurd rfl h) (fun hS=> ?_)
             clear hS hK K
             try simp only[Act.put,List.setIfInBounds_toArray,List.set_cons_zero,List.set_cons_succ]
             refine bg (by kernel_rfl) ?_ _
             refine NoPanic.normal ?_
             go_wp2_with fail
             (try simp only[Nat.zero_add]at hown3)
             have h8:=Ri.out _ _ _ _ hB3 (JB hown3 Yv) Yw.out
             rw[show nL+1=i+1+(nL-i)by omega]at h8
             have H8:=Lib.hid h8
             clear h8
             (try simp only[Nat.zero_add])
             go_roundw
             case rel=>exact⟨j+1,HJ.out,by go_num,H8.out.1,H8.out.2⟩
             case measure=>have:=HJ.out;simp[intOf];omega
           case wb=>
            go_simp
            refine hK.out _ _ (fun _=>trivial) (fun hS=> ?_)
            replace hS:=hS (by decide)
            clear hK K
            try simp only[Act.put,List.setIfInBounds_toArray,List.set_cons_zero,List.set_cons_succ]
            refine kP 0 (h:=fun K hK=> ?_)
            go_simp
            refine hK.out _ _ (fun _=>trivial) (fun hS=> ?_)
            replace hS:=hS (by decide)
            clear hK K
            try simp only[Act.put,List.setIfInBounds_toArray,List.set_cons_zero,List.set_cons_succ]
            refine ak (rs:=[4]) (by kernel_rfl) (by simp) ?_
            refine ah.cons (o:= ?o31) ?UH (fun K hK=> ?_) ah.nil
            case UH=>simp only[List.getElem?_toArray,List.getElem?_cons_succ,List.getElem?_cons_zero];rfl
            refine bF (by rfl) (.tmp 81) (.tmp 84) 27 (by rfl) w4.heap.size 26 i1 _ 1 24 Tryz.underlying27 jD.out.1 jD.out.2.1 jD.out.2.2.1 jD.out.2.2.2 rfl (by omega) _ 0 [] (by rfl) (dJ (dM w4 _ _).2 (Nat.le_succ _)) _ i _ (vals.take i) (by rfl) (oq.out _ (((Below.refl _ _).drew.alloc (Nat.le_refl _) _).alloc (by simp<;>omega) _)).1 HT1.out (by unfold maxLen;omega) (by omega) (by simp<;>omega) ?_
            intro A1 c1 u1 hown1 hb1 hg1
            have hB1:Below w4.heap.size w4 u1:=(((Below.refl _ _).drew.alloc (Nat.le_refl _) _).alloc (by simp<;>omega) _).trans hb1
            have hrow:=(gJ (vs:=[.slice aP lp cP]) (dM w4 (.cells #[.slice aP lp cP] 26) (.cells #[] 26)).1 (by simp[maxLen])).grown hg1 (fun b hb hbw=>by subst hb;simp[Value.ownBlock])
            refine hK.out _ _ (fun _=>trivial) (fun hS=> ?_)
            replace hS:=hS (by decide)
            clear hK K
            try simp only[Act.put,List.setIfInBounds_toArray,List.set_cons_zero,List.set_cons_succ]
            refine ak (rs:=[7]) (by kernel_rfl) (by simp) ?_
            refine ah.cons (o:= ?o32) ?UJ (fun K hK=> ?_) ah.nil
            case UJ=>simp only[List.getElem?_toArray,List.getElem?_cons_succ,List.getElem?_cons_zero];rfl
            refine av (by rfl) (.tmp 85) (.tmp 87) 27 (by rfl) w4.heap.size 26 i1 _ 1 24 Tryz.underlying27 jD.out.1 jD.out.2.1 jD.out.2.2.1 jD.out.2.2.2 rfl (by omega) _ _ _ (by rfl) hown1 _ 1 _ [.slice aP lp cP] (by rfl) hrow (by simp[Value.oneCell']) (by unfold maxLen;omega) (by omega) hB1.size ?_
            intro A2 c2 u2 hown2 hb2
            have hB2:Below w4.heap.size w4 u2:=hB1.trans hb2
            refine hK.out _ _ (fun _=>trivial) (fun hS=> ?_)
            replace hS:=hS (by decide)
            clear hK K
            try simp only[Act.put,List.setIfInBounds_toArray,List.set_cons_zero,List.set_cons_succ]
            refine ak (rs:=[11]) (by kernel_rfl) (by simp) ?_
            refine ah.cons (o:= ?o33) ?UK (fun K hK=> ?_) ah.nil
            case UK=>simp only[List.getElem?_toArray,List.getElem?_cons_succ,List.getElem?_cons_zero];rfl
            refine av (by rfl) (.tmp 88) (.tmp 91) 27 (by rfl) w4.heap.size 26 i1 _ 1 24 Tryz.underlying27 jD.out.1 jD.out.2.1 jD.out.2.2.1 jD.out.2.2.2 rfl (by omega) _ _ _ (by rfl) hown2 _ (nL-i) _ (vals.drop i) (by rfl) (oq.out _ hB2).2 HD1.out (by unfold maxLen;omega) (by omega) hB2.size ?_
            intro A3 c3 u3 hown3 hb3
            have hB3:Below w4.heap.size w4 u3:=hB2.trans hb3
            refine hK.out _ _ (fun _=>trivial) (fun hS=> ?_)
            replace hS:=hS (by decide)
            clear hK K
            try simp only[Act.put,List.setIfInBounds_toArray,List.set_cons_zero,List.set_cons_succ]
            refine kP 12 (h:=fun K hK=> ?_)
            go_simp
            refine hK.out _ _ (fun h=>absurd rfl h) (fun hS=> ?_)
            clear hS hK K
            try simp only[Act.put,List.setIfInBounds_toArray,List.set_cons_zero,List.set_cons_succ]
            refine bg (by kernel_rfl) ?_ _
            refine NoPanic.normal ?_
            go_wp2_with fail
            (try simp only[Nat.zero_add]at hown3)
            have h8:=Ri.out _ _ _ _ hB3 (JB hown3 Yv) Yw.out
            rw[show nL+1=i+1+(nL-i)by omega]at h8
            have H8:=Lib.hid h8
            clear h8
            (try simp only[Nat.zero_add])
            go_roundw
            case rel=>exact⟨j+1,HJ.out,by go_num,H8.out.1,H8.out.2⟩
            case measure=>have:=HJ.out;simp[intOf];omega
       ·have hd2:decide (j<nU)=false:=by simpa using hjn
        obtain rfl:j=nU:=by omega
        have Ic:=Lib.hid hown
        have Jk:=Lib.hid hBw
        clear hown hB2 hBw hjn
        go_wp2_with fail
        go_roundw
        case rel=>exact⟨k+1,MI.out,by go_num,by rw[←Tm.out];exact Ic.out,Jk.out⟩
        case measure=>have:=MI.out;simp[intOf];omega
     ·have hpp:(e.2.2 !=id)=true:=by simpa using hp
      have Tn:=Lib.hid (VR (n:=n) HX.out hp)
      clear hp
      go_wp2_with fail
      go_roundw
      case rel=>exact⟨k+1,MI.out,by go_num,by rw[Tn.out];exact HO.out,HB.out⟩
      case measure=>have:=MI.out;simp[intOf];omega
    ·have hd1:decide (k<M)=false:=by simpa using hlt
     obtain rfl:k=M:=by omega
     have HO:=Lib.hid hown
     have HB:=Lib.hid hB
     clear hown hB hlt
     go_wp2_with fail
     go_ret
     have e9:=X0.out
     rw[e9]at HO
     exact⟨_,rfl,HO.out,HB.out⟩
theorem Br (hT:dX T) {dep:Int→Nat} (hd:dQ T dep):∀(n:Nat) (id:Int) (w:World),iq F w r T→Ht T dep id<n→Calls Tryz.prog 58 #[ptr r, .int .i64 id] w (x9 w (bI T n id))
 |0,id,w,_,hl=>by omega
 |n+1,id,w,h,hl=>pE hT hd n (Br hT hd n) id w h hl
end
end Go.Proofs.YtmabllemjkcobaaGreat
