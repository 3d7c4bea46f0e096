/- Arguments opened: slices of bytes, of truths, of structs. The lemma open_slice_fields is the guide's own (extra-structs). The reference: Unlink, Rmdir. The reference: Rmdir. The reference: Read. The reference: Keep, Seal. -/
import Derived.Test.YtohpcppeajijnaaGreatM02
import Derived.Deep.Slices
import Derived.Deep.Fields
import Derived.Deep.Grids
import Derived.ChangeSame
import Derived.Lib.SmallJoins
import Derived.Test.YtohpcppeajijnaaGreatM28
namespace Go.Proofs.YtohpcppeajijnaaGreat
open Go.Joins Go.ChangeShapes Go.WideShapes Go.ChangeAt Go.RowKit Go.Deep
set_option linter.unusedVariables false
section
variable {H:Type} {enc:TypeId×Value→H} {P:Program} {w:World} {base:Nat} {spare:Nat→Bool} {held:Bool}
theorem CW {t e:TypeId} {fs:Array Field} {fuel:Nat} {cs:List Value} {x:DataW H×List MemPlace} (ht:P.underlying t=some (.slice e)) (he:P.underlying e=some (.struct fs))
  (hone:oneCellFields P fs=true) (hC:P.cellsOf e=fs.size) (h:DataW.trod enc P w base spare held fuel t cs=some x):
  (cs=[.slice none 0 0]∧x=(.nil,[]))∨
  ∃(a:Addr) (len cap m:Nat) (D:Nat→DataW H) (Pl:Nat→List MemPlace),cs=[.slice (some a) len cap]∧base≤a.block∧len≤cap∧cap≤maxLen∧m=(if spare a.block then cap else len)∧
   x=(.slice ((List.range len).map D) ((List.range (m-len)).map fun j=>D (len+j)),MemPlace.row a (m*fs.size)++(List.range m).flatMap Pl)∧
   ∀i,i<m→∃(ys:List (DataW H×List MemPlace)) (n:Nat),D i= .agg (ys.map (·.1))∧Pl i=ys.flatMap (·.2)∧ys.length=fs.size∧
    ∀(j:Nat) (f:Field),fs[j]? =some f→∃(v:Value) (y:DataW H×List MemPlace),w.cell? (a.add (i*fs.size+j))=some v∧ys[j]? =some y∧DataW.trod enc P w base spare held n f.type [v]=some y:=by
 rcases open_slice ht h with h0|⟨a,len,cap,m,n,D,Pl,hcs,hb,hl,hm,hmm,hx,hi⟩
 ·exact .inl h0
 ·refine .inr ⟨a,len,cap,m,D,Pl,hcs,hb,hl,hm,hmm,by rw[hC]at hx;exact hx,fun i him=> ?_⟩
  obtain⟨cs',hc,ht'⟩:=hi i him
  rw[hC]at hc
  obtain⟨ys,n',hn',hy,hlen,hyl,hf⟩:=DataW.trod_struct he ht'
  obtain⟨_,hcl,hat⟩:=World.cells?_some hc
  simp only[Prod.mk.injEq]at hy
  refine⟨ys,n',hy.1,hy.2,hyl,fun j f hj=> ?_⟩
  obtain⟨ho,hk⟩:=hone_of hone j f hj
  have hjl:j<fs.size:=(Array.getElem?_eq_some_iff.1 hj).1
  have hcell:=hat j hjl
  have hv:cs'[j]? =some (cs'[j]'(by omega)):=List.getElem?_eq_getElem (by omega)
  have h1:=hf j f hj
  rw[ho,hk]at h1
  have hone':(cs'.drop j).take 1=[cs'[j]'(by omega)]:=by
   rw[List.drop_eq_getElem_cons (by omega)]
   rfl
  rw[hone']at h1
  have hys:ys[j]? =some (ys[j]'(by omega)):=List.getElem?_eq_getElem (by omega)
  refine⟨_,_,?_,hys,h1.trans hys⟩
  rw[←Go.Deep.add_add,hcell,hv]
end
section
variable {H:Type} {enc:TypeId×Value→H} {W:World}
end
section
variable {H:Type} {P:Program}
end
section
variable {H:Type} {enc:TypeId×Value→H} {W:World}
end
open Go.ChangeShapes Go.WideShapes Go.ChangeAt Go.RowKit
set_option linter.unusedSimpArgs false
theorem Keeps.cell_ {r b:Nat} {w w':World} (h:Keeps (fun x=>x=r) w w') (hb:b<w.heap.size) (hn:b≠r) (j:Nat):w'.cell? ⟨b,j,none⟩=w.cell? ⟨b,j,none⟩:=World.cell?_of_block (w:=w) (w':=w') (a:=⟨b,j,none⟩) (h.block b hb hn)
theorem vK {T:aH} {p:List Nm} (h:(iD T p).2=0):iD T p=aF T 0 p:=by
 unfold iD at h⊢
 by_cases h1:bO p≠0
 ·rw[if_pos h1]at h;exact absurd h h1
 ·rw[if_neg h1]
section
variable {F:Nat→Prop} {r:Nat} {T:aH}
set_option maxRecDepth 100000 in
set_option maxHeartbeats 8000000 in
theorem zK {S:Nat→Prop} (a:Option Addr) (n c:Nat) (ls:List Nm) (w:World) (h:gU F w r T) (hT:dA T) (hS:aG S w a n (ls.map strOf)) (hc:n≤c) (jd:n≤1000000):
  Calls Tryz.prog 19 #[ptr r, .slice a n c] w (bA F w r (bQ T ls).2 (.int .i64 (bQ T ls).1)):=by
 have hE:(aU T).length≤1000000:=by have:=gZ hT;omega
 have H1:=Lib.hid (xB a n c ls w h hT hE hS)
 have H3:=Lib.hid (fun w1 (hb:Below w.heap.size w w1)=>jQ a n c ls w1 (h.below hb (Nat.le_refl _)) hT hE (hS.below hb (Nat.le_refl _)) hc jd)
 have H4:=Lib.hid (fun w1 (hb:Below w.heap.size w w1) id=>jO id w1 (h.below hb (Nat.le_refl _)) hT.totF)
 have H5:=Lib.hid (fun w1 (hb:Below w.heap.size w w1) d nm=>iP d nm w1 (h.below hb (Nat.le_refl _)) hE)
 have HH:=Lib.hid h
 have HT:=Lib.hid hT
 have hr0:=h.low r h.own
 by_cases h1:(iD T ls).2=0
 ·have vL:=vK h1
  rw[vL]at h1 H1
  have hl2:aF T 0 ls=((aF T 0 ls).1,0):=Prod.ext rfl h1
  obtain⟨y,hy⟩:=Option.isSome_iff_exists.1 (fA hT ls 0 (dW hT) h1)
  have hue:gH T ls=if y.kind=2 then 22 else 0:=by
   unfold gH
   rw[vL,if_neg (by rw[h1];simp),b_ hy]
  obtain⟨id,hid⟩:∃id,id=(aF T 0 ls).1:=⟨_,rfl⟩
  rw[←hid]at hl2 hy
  rw[hl2]at H1
  simp only at H1
  have rE:=Lib.hid (fun w1 hb=>H4.out w1 hb id)
  have hnd:jy T id=iM id y:=by unfold jy;rw[hy]
  rw[hnd]at rE
  unfold iM at rE
  have hlk:=(hT.each id y hy).links
  by_cases h2:y.kind=2
  ·have hk1:(y.kind==2)=true:=by simpa using h2
   have HQ:Hid (bQ T ls=(22,T)):=by
    show bQ T ls=(22,T)
    unfold bQ
    rw[hue,if_pos h2]
    rfl
   clear h hT hS hE H4 vL h1 hl2 hue hid hnd hy h2
   go_enter Tryz.func19,Tryz.ntmps19
   go_wp2_with fail
   (with_reducible refine H1.out.mono ?_)
   rintro e w1 ⟨rfl,hb1⟩
   have HB1:=Lib.hid hb1
   clear hb1
   go_wp2_with fail
   (with_reducible refine(rE.out w1 HB1.out).mono ?_)
   rintro e w3 ⟨rfl,hb3⟩
   have HB3:=Lib.hid (HB1.out.trans (hb3.mono HB1.out.size))
   have hz3:=HB3.out.size
   clear hb3
   go_wp2_with fail
   go_ret
   exact bA.no HH.out (HB3.out.trans ((wall w3 _).mono HB3.out.size)) HQ.out
  ·have hk1:(y.kind==2)=false:=by simpa using h2
   have hls:ls≠[]:=fun e=>by
    rw[e]at hl2
    simp only[aF,Prod.mk.injEq,and_true]at hl2
    obtain⟨z,hz,Ow⟩:=jf hT.root
    rw[←hl2,hz]at hy
    cases hy
    exact h2 Ow
   obtain⟨d,x,n1,hp1,hp2,hx,hxk,hxn,hm,-⟩:=bS hl2 hls
   rw[hp1]at H3
   simp only at H3
   have G7:id≠d:=fun e=>by rw[e,hx]at hy;cases hy;exact h2 hxk
   have Aa:=Lib.hid ((oI.of hT).cut d n1)
   obtain⟨k,hk,-⟩:=qQ (oI.of hT) hx hxn
   have pU:=Lib.hid (fun w1 hb=>H5.out w1 hb d n1)
   rw[hk]at pU
   have Km:Hid (∀w4,Below w.heap.size w w4→Calls Tryz.prog 69 #[ptr r, .int .i64 k] w4 (bA F w4 r (aA T d n1) (.tuple #[]))):=fun w4 hb=>by
    obtain⟨k',hk',hc'⟩:=uf d n1 id x w4 (h.below hb (Nat.le_refl _)) (oI.of hT) hx hxn
    rw[hk]at hk'
    have:k=k':=by omega
    rw[this]
    exact hc'
   have DW:Hid (aj id (aA T d n1)=some y):=by
    show aj id (aA T d n1)=some y
    unfold aA
    rw[aS,if_neg G7]
    exact hy
   have Mf:Hid (aj id (bf id (fun x:bF=>{x with links:=x.links+ -1}) (aA T d n1))=some {y with links:=y.links+ -1}):=by
    show aj id (bf id (fun x:bF=>{x with links:=x.links+ -1}) (aA T d n1))=some {y with links:=y.links+ -1}
    rw[aS,if_pos rfl,DW.out]
    rfl
   have HL2:Hid (oI (bf id (fun x:bF=>{x with links:=x.links+ -1}) (aA T d n1))):=Aa.out.bf id (fun _=>by exact rfl)
   have hnil:y.names=[]:=(hT.each id y hy).file ((hT.each id y hy).kind.resolve_right h2)
   have HQ:Hid (bQ T ls=(0,if y.links=1∧y.closed=true then bH id (bf id (fun x:bF=>{x with links:=x.links+ -1}) (aA T d n1))else bf id (fun x:bF=>{x with links:=x.links+ -1}) (aA T d n1))):=by
    show bQ T ls=_
    unfold bQ
    rw[hue,if_neg h2]
    refine Prod.ext rfl ?_
    show mo T ls=_
    unfold mo fG
    rw[hp1,←hid]
    have e0:(fun x:bF=>{x with links:=x.links-1})=fun x:bF=>{x with links:=x.links+ -1}:=rfl
    simp only[e0]
    rw[Mf.out]
    simp only
    by_cases hq:y.links=1∧y.closed=true
    ·rw[if_pos hq,if_pos ⟨by omega,hq.2⟩]
    ·rw[if_neg hq,if_neg (fun h=>hq ⟨by omega,h.2⟩)]
   clear h hT hS hE H4 H5 vL h1 hl2 hue hid hnd hy h2 hls hp1 hp2 hx hxk hxn hm hk G7
   by_cases h3:y.links=1
   ·have e1:(y.links==1)=true:=by simpa using h3
    cases h4:y.closed with
    |true=>
     rw[if_pos ⟨h3,h4⟩]at HQ
     rw[h4]at rE
     have hcl:=Lib.hid h4
     clear h3 h4
     go_enter Tryz.func19,Tryz.ntmps19
     go_wp2_with fail
     (with_reducible refine H1.out.mono ?_)
     rintro e w1 ⟨rfl,hb1⟩
     have HB1:=Lib.hid hb1
     clear hb1
     go_wp2_with fail
     (with_reducible refine(rE.out w1 HB1.out).mono ?_)
     rintro e w3 ⟨rfl,hb3⟩
     have HB3:=Lib.hid (HB1.out.trans (hb3.mono HB1.out.size))
     have hz3:=HB3.out.size
     clear hb3
     go_wp2_with fail
     (with_reducible refine(H3.out _ (HB3.out.trans ((wall w3 _).mono HB3.out.size))).mono ?_)
     rintro e w4 ⟨rfl,hb4⟩
     have eG:=Lib.hid ((HB3.out.trans ((wall w3 _).mono HB3.out.size)).trans (hb4.mono (by simp;omega)))
     have q4:w4.cell? ⟨w3.heap.size,2,none⟩=some (.int .i64 y.links):=by rw[hb4.cell (p:=⟨w3.heap.size,2,none⟩) (by simp)];exact eT w3 _ _ 2
     have q5:w4.cell? ⟨w3.heap.size,5,none⟩=some (.bool true):=by rw[hb4.cell (p:=⟨w3.heap.size,5,none⟩) (by simp)];exact(eT w3 _ _ 5)
     have tK:w3.heap.size<w4.heap.size:=by have:=hb4.size;simp at this;omega
     obtain⟨qb,El⟩:∃qb,qb=w3.heap.size:=⟨_,rfl⟩
     have hqr:qb≠r:=by omega
     rw[←El]at q4 q5 tK⊢
     have HZ:=Lib.hid El
     clear hb4 El hz3
     go_wp2_with fail
     (with_reducible refine(pU.out w4 eG.out).mono ?_)
     rintro e w5 ⟨rfl,rfl⟩
     go_wp2_with fail
     (with_reducible refine(Km.out w4 eG.out).mono ?_)
     rintro e w5 JW
     obtain⟨rfl,qI,yt⟩:=JW
     have Le:w5.cell? ⟨qb,2,none⟩=some (.int .i64 y.links):=(qI.cell_ tK hqr 2).trans q4
     have Lf:w5.cell? ⟨qb,5,none⟩=some (.bool true):=(qI.cell_ tK hqr 5).trans q5
     have wH:qb<w5.heap.size:=by have:=qI.size;omega
     have Ab:=Lib.hid (pE id (-1) y w5 yt Aa.out DW.out (by omega) hlk)
     have zY:Hid (bA F w4 r (aA T d n1) (.tuple #[]) (.returned (.tuple #[])) w5):=⟨rfl,qI,yt⟩
     clear qI yt q4 q5
     go_wp2_with fail
     (with_reducible refine Ab.out.mono ?_)
     rintro e w6 Eb
     obtain⟨rfl,xD,Fg⟩:=Eb
     have q4:w6.cell? ⟨qb,2,none⟩=some (.int .i64 y.links):=(xD.cell_ wH hqr 2).trans Le
     have q5:w6.cell? ⟨qb,5,none⟩=some (.bool true):=(xD.cell_ wH hqr 5).trans Lf
     have Xt:qb<w6.heap.size:=by have:=xD.size;omega
     have Lg:=Lib.hid (oJ id _ w6 Fg HL2.out.sorted HL2.out.len Mf.out hnil)
     have vI:Hid (bA (Grow F w4 w5) w5 r (bf id (fun x=>{x with links:=x.links+ -1}) (aA T d n1)) (.tuple #[]) (.returned (.tuple #[])) w6):=⟨rfl,xD,Fg⟩
     clear xD Fg Le Lf
     go_wp2_with fail
     (with_reducible refine Lg.out.mono ?_)
     rintro e w7 G8
     have JV:=Lib.hid G8
     obtain rfl:=G8.1
     clear G8
     go_wp2_with fail
     go_ret
     rw[HQ.out]
     have Zd:=zY.out.trans (HH.out.below eG.out (Nat.le_refl _)).low vI.out
     exact(dh.behind HH.out.low eG.out (zY.out.trans (HH.out.below eG.out (Nat.le_refl _)).low (vI.out.trans zY.out.2.2.low JV.out))).val _
    |false=>
     rw[if_neg (by rw[h4];simp)]at HQ
     rw[h4]at rE
     clear h3 h4
     go_enter Tryz.func19,Tryz.ntmps19
     go_wp2_with fail
     (with_reducible refine H1.out.mono ?_)
     rintro e w1 ⟨rfl,hb1⟩
     have HB1:=Lib.hid hb1
     clear hb1
     go_wp2_with fail
     (with_reducible refine(rE.out w1 HB1.out).mono ?_)
     rintro e w3 ⟨rfl,hb3⟩
     have HB3:=Lib.hid (HB1.out.trans (hb3.mono HB1.out.size))
     have hz3:=HB3.out.size
     clear hb3
     go_wp2_with fail
     (with_reducible refine(H3.out _ (HB3.out.trans ((wall w3 _).mono HB3.out.size))).mono ?_)
     rintro e w4 ⟨rfl,hb4⟩
     have eG:=Lib.hid ((HB3.out.trans ((wall w3 _).mono HB3.out.size)).trans (hb4.mono (by simp;omega)))
     have q4:w4.cell? ⟨w3.heap.size,2,none⟩=some (.int .i64 y.links):=by rw[hb4.cell (p:=⟨w3.heap.size,2,none⟩) (by simp)];exact eT w3 _ _ 2
     have q5:w4.cell? ⟨w3.heap.size,5,none⟩=some (.bool false):=by rw[hb4.cell (p:=⟨w3.heap.size,5,none⟩) (by simp)];exact eT w3 _ _ 5
     have tK:w3.heap.size<w4.heap.size:=by have:=hb4.size;simp at this;omega
     obtain⟨qb,El⟩:∃qb,qb=w3.heap.size:=⟨_,rfl⟩
     have hqr:qb≠r:=by omega
     rw[←El]at q4 q5 tK⊢
     have HZ:=Lib.hid El
     clear hb4 El hz3
     go_wp2_with fail
     (with_reducible refine(pU.out w4 eG.out).mono ?_)
     rintro e w5 ⟨rfl,rfl⟩
     go_wp2_with fail
     (with_reducible refine(Km.out w4 eG.out).mono ?_)
     rintro e w5 JW
     obtain⟨rfl,qI,yt⟩:=JW
     have Le:w5.cell? ⟨qb,2,none⟩=some (.int .i64 y.links):=(qI.cell_ tK hqr 2).trans q4
     have Lf:w5.cell? ⟨qb,5,none⟩=some (.bool false):=(qI.cell_ tK hqr 5).trans q5
     have wH:qb<w5.heap.size:=by have:=qI.size;omega
     have Ab:=Lib.hid (pE id (-1) y w5 yt Aa.out DW.out (by omega) hlk)
     have zY:Hid (bA F w4 r (aA T d n1) (.tuple #[]) (.returned (.tuple #[])) w5):=⟨rfl,qI,yt⟩
     clear qI yt q4 q5
     go_wp2_with fail
     (with_reducible refine Ab.out.mono ?_)
     rintro e w6 Eb
     obtain⟨rfl,xD,Fg⟩:=Eb
     have q4:w6.cell? ⟨qb,2,none⟩=some (.int .i64 y.links):=(xD.cell_ wH hqr 2).trans Le
     have q5:w6.cell? ⟨qb,5,none⟩=some (.bool false):=(xD.cell_ wH hqr 5).trans Lf
     have Xt:qb<w6.heap.size:=by have:=xD.size;omega
     have vI:Hid (bA (Grow F w4 w5) w5 r (bf id (fun x=>{x with links:=x.links+ -1}) (aA T d n1)) (.tuple #[]) (.returned (.tuple #[])) w6):=⟨rfl,xD,Fg⟩
     clear xD Fg Le Lf
     go_wp2_with fail
     go_ret
     rw[HQ.out]
     exact(dh.behind HH.out.low eG.out (zY.out.trans (HH.out.below eG.out (Nat.le_refl _)).low vI.out)).val _
   ·have e1:(y.links==1)=false:=by simpa using h3
    rw[if_neg (fun h=>h3 h.1)]at HQ
    clear h3
    go_enter Tryz.func19,Tryz.ntmps19
    go_wp2_with fail
    (with_reducible refine H1.out.mono ?_)
    rintro e w1 ⟨rfl,hb1⟩
    have HB1:=Lib.hid hb1
    clear hb1
    go_wp2_with fail
    (with_reducible refine(rE.out w1 HB1.out).mono ?_)
    rintro e w3 ⟨rfl,hb3⟩
    have HB3:=Lib.hid (HB1.out.trans (hb3.mono HB1.out.size))
    have hz3:=HB3.out.size
    clear hb3
    go_wp2_with fail
    (with_reducible refine(H3.out _ (HB3.out.trans ((wall w3 _).mono HB3.out.size))).mono ?_)
    rintro e w4 ⟨rfl,hb4⟩
    have eG:=Lib.hid ((HB3.out.trans ((wall w3 _).mono HB3.out.size)).trans (hb4.mono (by simp;omega)))
    have q4:w4.cell? ⟨w3.heap.size,2,none⟩=some (.int .i64 y.links):=by rw[hb4.cell (p:=⟨w3.heap.size,2,none⟩) (by simp)];exact eT w3 _ _ 2
    have q5:w4.cell? ⟨w3.heap.size,5,none⟩=some (.bool y.closed):=by rw[hb4.cell (p:=⟨w3.heap.size,5,none⟩) (by simp)];exact eT w3 _ _ 5
    have tK:w3.heap.size<w4.heap.size:=by have:=hb4.size;simp at this;omega
    obtain⟨qb,El⟩:∃qb,qb=w3.heap.size:=⟨_,rfl⟩
    have hqr:qb≠r:=by omega
    rw[←El]at q4 q5 tK⊢
    have HZ:=Lib.hid El
    clear hb4 El hz3
    go_wp2_with fail
    (with_reducible refine(pU.out w4 eG.out).mono ?_)
    rintro e w5 ⟨rfl,rfl⟩
    go_wp2_with fail
    (with_reducible refine(Km.out w4 eG.out).mono ?_)
    rintro e w5 JW
    obtain⟨rfl,qI,yt⟩:=JW
    have Le:w5.cell? ⟨qb,2,none⟩=some (.int .i64 y.links):=(qI.cell_ tK hqr 2).trans q4
    have Lf:w5.cell? ⟨qb,5,none⟩=some (.bool y.closed):=(qI.cell_ tK hqr 5).trans q5
    have wH:qb<w5.heap.size:=by have:=qI.size;omega
    have Ab:=Lib.hid (pE id (-1) y w5 yt Aa.out DW.out (by omega) hlk)
    have zY:Hid (bA F w4 r (aA T d n1) (.tuple #[]) (.returned (.tuple #[])) w5):=⟨rfl,qI,yt⟩
    clear qI yt q4 q5
    go_wp2_with fail
    (with_reducible refine Ab.out.mono ?_)
    rintro e w6 Eb
    obtain⟨rfl,xD,Fg⟩:=Eb
    have q4:w6.cell? ⟨qb,2,none⟩=some (.int .i64 y.links):=(xD.cell_ wH hqr 2).trans Le
    have q5:w6.cell? ⟨qb,5,none⟩=some (.bool y.closed):=(xD.cell_ wH hqr 5).trans Lf
    have Xt:qb<w6.heap.size:=by have:=xD.size;omega
    have vI:Hid (bA (Grow F w4 w5) w5 r (bf id (fun x=>{x with links:=x.links+ -1}) (aA T d n1)) (.tuple #[]) (.returned (.tuple #[])) w6):=⟨rfl,xD,Fg⟩
    clear xD Fg Le Lf
    go_wp2_with fail
    go_ret
    rw[HQ.out]
    exact(dh.behind HH.out.low eG.out (zY.out.trans (HH.out.below eG.out (Nat.le_refl _)).low vI.out)).val _
 ·have HQ:Hid (bQ T ls=((iD T ls).2,T)):=by
   show bQ T ls=_
   have he:gH T ls=(iD T ls).2:=by unfold gH;rw[if_pos h1]
   unfold bQ
   rw[he,if_neg h1]
  generalize iD T ls=lk at*
  obtain⟨id,e1⟩:=lk
  simp only at h1 H1 HQ
  have hne:(e1==0)=false:=by simpa using h1
  have hne2:(e1 !=0)=true:=by simpa using h1
  clear h hT hS hE h1
  go_enter Tryz.func19,Tryz.ntmps19
  go_wp2_with fail
  (with_reducible refine H1.out.mono ?_)
  rintro e w1 ⟨rfl,hb1⟩
  have HB1:=Lib.hid hb1
  clear hb1
  go_wp2_with fail
  go_ret
  exact bA.no HH.out HB1.out HQ.out
end
theorem nD {T:aH} {p:List Nm} {v:Int} (h:gL T p=v) (hv:v≠0):cO T p=(v,T):=by
 unfold cO
 rw[h,if_neg hv]
section
variable {F:Nat→Prop} {r:Nat} {T:aH}
set_option maxRecDepth 100000 in
set_option maxHeartbeats 8000000 in
theorem Bv {S:Nat→Prop} (a:Option Addr) (n c:Nat) (ls:List Nm) (w:World) (h:gU F w r T) (hT:dA T) (hS:aG S w a n (ls.map strOf)) (hc:n≤c) (jd:n≤1000000):
  Calls Tryz.prog 15 #[ptr r, .slice a n c] w (bA F w r (cO T ls).2 (.int .i64 (cO T ls).1)):=by
 have hE:(aU T).length≤1000000:=by have:=gZ hT;omega
 have hln:ls.length=n:=by have:=hS.length;simpa using this
 have H1:=Lib.hid (xB a n c ls w h hT hE hS)
 have H3:=Lib.hid (fun w1 (hb:Below w.heap.size w w1)=>jQ a n c ls w1 (h.below hb (Nat.le_refl _)) hT hE (hS.below hb (Nat.le_refl _)) hc jd)
 have H4:=Lib.hid (fun w1 (hb:Below w.heap.size w w1) id=>Ed id w1 (h.below hb (Nat.le_refl _)) hT)
 have H5:=Lib.hid (fun w1 (hb:Below w.heap.size w w1) d nm=>iP d nm w1 (h.below hb (Nat.le_refl _)) hE)
 have HH:=Lib.hid h
 have HT:=Lib.hid hT
 have hr0:=h.low r h.own
 by_cases h1:(iD T ls).2=0
 ·have vL:=vK h1
  rw[vL]at h1 H1
  have hl2:aF T 0 ls=((aF T 0 ls).1,0):=Prod.ext rfl h1
  obtain⟨y,hy⟩:=Option.isSome_iff_exists.1 (fA hT ls 0 (dW hT) h1)
  have hue:gL T ls=if y.kind≠2 then 23 else if (aF T 0 ls).1=0 then 1 else if 0<y.names.length then 24 else 0:=by
   unfold gL
   rw[vL,if_neg (by rw[h1];simp),b_ hy,dQ hy]
  obtain⟨id,hid⟩:∃id,id=(aF T 0 ls).1:=⟨_,rfl⟩
  rw[←hid]at hl2 hy hue
  rw[hl2]at H1
  simp only at H1
  have Ab:=Lib.hid (fun w1 hb=>H4.out w1 hb id)
  have hlm:CF T id=if y.kind=2 then(y.names.map (·.1),0)else([],23):=by unfold CF;rw[hy]
  rw[hlm]at Ab
  by_cases h2:y.kind=2
  ·rw[if_pos h2]at Ab
   rw[if_neg (by simpa using h2)]at hue
   by_cases h3:ls=[]
   ·have nS:id=0:=by rw[hid,h3];rfl
    rw[if_pos nS]at hue
    have hn0:n=0:=by rw[←hln,h3];rfl
    have HQ:=Lib.hid (nD hue (by omega))
    subst hn0
    clear h hT hS hE H4 vL h1 hl2 hue hid hy h2 hlm h3 nS hln hc
    go_enter Tryz.func15,Tryz.ntmps15
    go_wp2_with fail
    (with_reducible refine H1.out.mono ?_)
    rintro e w1 ⟨rfl,hb1⟩
    have HB1:=Lib.hid hb1
    clear hb1
    go_wp2_with fail
    (with_reducible refine(Ab.out w1 HB1.out).mono ?_)
    rintro e w3 ⟨al,cl,rfl,-,-,hb3⟩
    have HB3:=Lib.hid (HB1.out.trans (hb3.mono HB1.out.size))
    clear hb3
    simp only[List.length_map]
    go_wp2_with fail
    go_ret
    exact bA.no HH.out HB3.out HQ.out
   ·have nS:id≠0:=fun e=>by
     obtain⟨d,x,n1,_,_,hx,_,hxn,_,-⟩:=bS hl2 h3
     exact(hT.leads d x hx _ (cu hxn)).2 e
    rw[if_neg nS]at hue
    have hn0:((n:Int)==0)=false:=by
     have:ls.length≠0:=fun e=>h3 (List.eq_nil_of_length_eq_zero e)
     simp;omega
    obtain⟨m,hm⟩:∃m,m=y.names.length:=⟨_,rfl⟩
    have hml:(y.names.map (·.1)).length=m:=by rw[List.length_map,hm]
    rw[←hm]at hue
    by_cases h4:0<m
    ·rw[if_pos h4]at hue
     have HQ:=Lib.hid (nD hue (by omega))
     have hd4:decide (0<m)=true:=by simpa using h4
     generalize y.names.map (·.1)=L at*
     subst hml
     clear h hT hS hE H4 vL h1 hl2 hue hid hy h2 hlm h3 nS hln hc hm
     go_enter Tryz.func15,Tryz.ntmps15
     go_wp2_with fail
     (with_reducible refine H1.out.mono ?_)
     rintro e w1 ⟨rfl,hb1⟩
     have HB1:=Lib.hid hb1
     clear hb1
     go_wp2_with fail
     (with_reducible refine(Ab.out w1 HB1.out).mono ?_)
     rintro e w3 ⟨al,cl,rfl,-,-,hb3⟩
     have HB3:=Lib.hid (HB1.out.trans (hb3.mono HB1.out.size))
     clear hb3
     go_wp2_with fail
     go_ret
     exact bA.no HH.out HB3.out HQ.out
    ·rw[if_neg h4]at hue
     have hm0:m=0:=by omega
     have hnil:y.names=[]:=List.eq_nil_of_length_eq_zero (by omega)
     rw[hnil]at Ab
     obtain⟨d,x,n1,hp1,hp2,hx,hxk,hxn,hmm,-⟩:=bS hl2 h3
     rw[hp1]at H3
     simp only at H3
     have G7:id≠d:=fun e=>by rw[e,hx]at hy;cases hy;rw[hnil]at hxn;cases hxn
     have Aa:=Lib.hid ((oI.of hT).cut d n1)
     obtain⟨k,hk,-⟩:=qQ (oI.of hT) hx hxn
     have pU:=Lib.hid (fun w1 hb=>H5.out w1 hb d n1)
     rw[hk]at pU
     have Km:Hid (∀w4,Below w.heap.size w w4→Calls Tryz.prog 69 #[ptr r, .int .i64 k] w4 (bA F w4 r (aA T d n1) (.tuple #[]))):=fun w4 hb=>by
      obtain⟨k',hk',hc'⟩:=uf d n1 id x w4 (h.below hb (Nat.le_refl _)) (oI.of hT) hx hxn
      rw[hk]at hk'
      have:k=k':=by omega
      rw[this]
      exact hc'
     have DW:Hid (aj id (aA T d n1)=some y):=by
      show aj id (aA T d n1)=some y
      unfold aA
      rw[aS,if_neg G7]
      exact hy
     have Gh:=Lib.hid hnil
     have HQ:Hid (cO T ls=(0,bH id (aA T d n1))):=by
      show cO T ls=_
      unfold cO qy
      rw[hue,hp1,←hid]
      rfl
     clear h hT hS hE H4 H5 vL h1 hl2 hue hid hy h2 h3 hp1 hp2 hx hxk hxn hmm hk G7 hm0 hnil hml hm h4 hlm hln nS hc
     go_enter Tryz.func15,Tryz.ntmps15
     go_wp2_with fail
     (with_reducible refine H1.out.mono ?_)
     rintro e w1 ⟨rfl,hb1⟩
     have HB1:=Lib.hid hb1
     clear hb1
     go_wp2_with fail
     (with_reducible refine(Ab.out w1 HB1.out).mono ?_)
     rintro e w3 ⟨al,cl,rfl,-,-,hb3⟩
     have HB3:=Lib.hid (HB1.out.trans (hb3.mono HB1.out.size))
     clear hb3
     simp only[List.map_nil,List.length_nil]
     go_wp2_with fail
     (with_reducible refine(H3.out _ HB3.out).mono ?_)
     rintro e w4 ⟨rfl,hb4⟩
     have eG:=Lib.hid (HB3.out.trans (hb4.mono HB3.out.size))
     clear hb4
     go_wp2_with fail
     (with_reducible refine(pU.out w4 eG.out).mono ?_)
     rintro e w5 ⟨rfl,rfl⟩
     go_wp2_with fail
     (with_reducible refine(Km.out w4 eG.out).mono ?_)
     rintro e w5 JW
     obtain⟨rfl,qI,yt⟩:=JW
     have Lg:=Lib.hid (oJ id y w5 yt Aa.out.sorted Aa.out.len DW.out Gh.out)
     have zY:Hid (bA F w4 r (aA T d n1) (.tuple #[]) (.returned (.tuple #[])) w5):=⟨rfl,qI,yt⟩
     clear qI yt
     go_wp2_with fail
     (with_reducible refine Lg.out.mono ?_)
     rintro e w6 Eb
     have vI:=Lib.hid Eb
     obtain rfl:=Eb.1
     clear Eb
     go_wp2_with fail
     go_ret
     rw[HQ.out]
     exact(dh.behind HH.out.low eG.out (zY.out.trans (HH.out.below eG.out (Nat.le_refl _)).low vI.out)).val _
  ·rw[if_neg h2]at Ab
   rw[if_pos h2]at hue
   have HQ:=Lib.hid (nD hue (by omega))
   clear h hT hS hE H4 vL h1 hl2 hue hid hy h2 hlm hln hc
   go_enter Tryz.func15,Tryz.ntmps15
   go_wp2_with fail
   (with_reducible refine H1.out.mono ?_)
   rintro e w1 ⟨rfl,hb1⟩
   have HB1:=Lib.hid hb1
   clear hb1
   go_wp2_with fail
   (with_reducible refine(Ab.out w1 HB1.out).mono ?_)
   rintro e w3 ⟨al,cl,rfl,-,-,hb3⟩
   have HB3:=Lib.hid (HB1.out.trans (hb3.mono HB1.out.size))
   clear hb3
   simp only[List.length_nil]
   go_wp2_with fail
   go_ret
   exact bA.no HH.out HB3.out HQ.out
 ·have HQ:Hid (cO T ls=((iD T ls).2,T)):=nD (by unfold gL;rw[if_pos h1]) h1
  generalize iD T ls=lk at*
  obtain⟨id,e1⟩:=lk
  simp only at h1 H1 HQ
  have hne:(e1==0)=false:=by simpa using h1
  have hne2:(e1 !=0)=true:=by simpa using h1
  clear h hT hS hE h1 hln hc
  go_enter Tryz.func15,Tryz.ntmps15
  go_wp2_with fail
  (with_reducible refine H1.out.mono ?_)
  rintro e w1 ⟨rfl,hb1⟩
  have HB1:=Lib.hid hb1
  clear hb1
  go_wp2_with fail
  go_ret
  exact bA.no HH.out HB1.out HQ.out
end
def CX (F:Nat→Prop) (w:World) (bs:List UInt8) (k:Int) (e:Ending) (w':World):Prop:=
 ∃a n c,e= .returned (.tuple #[.slice a n c, .int .i64 k])∧ak F w a n (bs.map bv)∧w=w'
section
variable {F:Nat→Prop} {r:Nat} {T:aH}
set_option maxRecDepth 100000 in
set_option maxHeartbeats 8000000 in
theorem Ep (id at_ n:Int) (w:World) (h:gU F w r T) (hT:tF T) (hA:(Lit.int .i64 at_).wf=true) (hN:(Lit.int .i64 n).wf=true):Calls Tryz.prog 28 #[ptr r, .int .i64 id, .int .i64 at_, .int .i64 n] w (CX (Off F r) w (mh T id at_ n) (mg T id at_ n)):=by
 have HF:=Lib.hid (mM id w h hT)
 have hr0:=h.low r h.own
 have hfe:bK T id≠0∨bK T id=0:=by omega
 rcases hfe with h0|h0
 ·have e1:mg T id at_ n=bK T id∧mh T id at_ n=[]:=by
   unfold mg mh bK at*
   cases hx:aj id T with
   |none=>simp
   |some x=>
    rw[hx]at h0
    simp only at h0⊢
    by_cases hk:x.kind=2
    ·simp[hk]
    ·rw[if_neg hk]at h0;exact absurd rfl h0
  rw[e1.1,e1.2]
  generalize bK T id=f at*
  have hne:(f==0)=false:=by simpa using h0
  have hne2:(f !=0)=true:=by simpa using h0
  clear h hT e1 h0 hA hN
  go_enter Tryz.func28,Tryz.ntmps28
  go_wp2_with fail
  (with_reducible refine HF.out.mono ?_)
  rintro e w1 ⟨rfl,rfl⟩
  go_wp2_with fail
  go_ret2
  exact⟨none,0,0,rfl,ak.nil _ _ _,rfl⟩
 ·obtain⟨x,hx,hk⟩:∃x,aj id T=some x∧x.kind≠2:=by
   unfold bK at h0
   cases hx:aj id T with
   |none=>rw[hx]at h0;cases h0
   |some x=>
    rw[hx]at h0
    exact⟨x,rfl,fun hk=>by simp[hk]at h0⟩
  obtain⟨k,hi,hq⟩:=iO hT.sorted hx
  have hrf:zB T id=k:=by unfold zB;rw[if_pos h0];exact hi
  rw[hrf,h0]at HF
  have e1:mg T id at_ n=uE at_ n∧mh T id at_ n=uF x.b at_ n:=by
   unfold mg mh
   rw[hx]
   exact⟨if_neg hk,if_neg hk⟩
  rw[e1.1,e1.2]
  obtain⟨b,off,c,a,c',hc1,hO,hb,hcd,hcap,hrow⟩:=h.data (k:=k) (d:=x.b) (by rw[List.getElem?_map,hq];rfl)
  have hkl:k<T.length:=(List.getElem?_eq_some_iff.1 hq).1
  rw[List.length_map]at hc1
  have hlen:=hT.len
  have hsz:=(hT.each id x hx).size
  obtain⟨l,hl⟩:∃l,l=x.b.length:=⟨_,rfl⟩
  rw[←hl]at hcd hcap hrow hsz
  have hcc:=hcap.1
  have i0:(0:Int)≤k:=by omega
  have i1:(k:Int)<T.length:=by omega
  have HR:=Lib.hid hrow
  have HL:=Lib.hid hl
  simp[Lit.wf,IntKind.min,IntKind.max,IntKind.signed,IntKind.bits]at hA hN
  generalize x.b=bs at*
  generalize T.length=tl at*
  clear h hT e1 h0 hx hk hi hq hrf hl hrow hcap
  unfold uE uF
  by_cases h1:at_<0
  ·rw[if_pos (.inl h1),if_pos (.inl h1)]
   go_enter Tryz.func28,Tryz.ntmps28
   go_wp2_with fail
   (with_reducible refine HF.out.mono ?_)
   rintro e w1 ⟨rfl,rfl⟩
   go_wp2_with fail
   go_ret2
   exact⟨none,0,0,rfl,ak.nil _ _ _,rfl⟩
  ·by_cases h2:n<0
   ·rw[if_pos (.inr h2),if_pos (.inr h2)]
    go_enter Tryz.func28,Tryz.ntmps28
    go_wp2_with fail
    (with_reducible refine HF.out.mono ?_)
    rintro e w1 ⟨rfl,rfl⟩
    go_wp2_with fail
    go_ret2
    exact⟨none,0,0,rfl,ak.nil _ _ _,rfl⟩
   ·rw[if_neg (by omega),if_neg (by omega)]
    obtain⟨A,rfl⟩:∃A:Nat,at_=A:=⟨at_.toNat,by omega⟩
    obtain⟨N,rfl⟩:∃N:Nat,n=N:=⟨n.toNat,by omega⟩
    simp only[Int.toNat_natCast]
    have hd1:decide ((A:Int)<0)=false:=by simp
    have hd2:decide ((N:Int)<0)=false:=by simp
    by_cases h3:l≤A
    ·have hd3:decide ((l:Int)≤(A:Int))=true:=by simp;omega
     have SH:decide (l≤A)=true:=by simpa using h3
     have HE:Hid ((bs.drop A).take N=[]):=by
      show(bs.drop A).take N=[]
      rw[List.drop_of_length_le (by have:=HL.out;omega),List.take_nil]
     go_enter Tryz.func28,Tryz.ntmps28
     go_wp2_with fail
     (with_reducible refine HF.out.mono ?_)
     rintro e w1 ⟨rfl,rfl⟩
     go_wp2_with fail
     go_ret2
     exact⟨none,0,0,rfl,by rw[HE.out];exact ak.nil _ _ _,rfl⟩
    ·have hd3:decide ((l:Int)≤(A:Int))=false:=by simp;omega
     have SH:decide (l≤A)=false:=by simpa using h3
     obtain⟨b2,off2,rfl,hO2,hb2,-⟩:=HR.out.at_ (by omega)
     have hca:¬c'=A:=by omega
     have e1:IntKind.i64.wrap ((l:Int)-(A:Int))=(l:Int)-(A:Int):=IntWalk.i64_in _ (by omega)
     have i2:(0:Int)≤(A:Int):=by omega
     have i5:(l:Int)≤(c':Int):=by omega
     by_cases h4:l-A<N
     ·have hd4:decide ((l:Int)-(A:Int)<(N:Int))=true:=by simp;omega
      have e2:IntKind.i64.wrap ((A:Int)+((l:Int)-(A:Int)))=(l:Int):=by rw[show(A:Int)+((l:Int)-(A:Int))=l by omega];exact IntWalk.i64_in _ (by omega)
      have i3:(A:Int)≤(l:Int):=by omega
      have HE:Hid ((bs.drop A).take N=(bs.drop A).take (l-A)):=by
       show(bs.drop A).take N=_
       have:=HL.out
       rw[List.take_of_length_le (by simp;omega),List.take_of_length_le (by simp;omega)]
      go_enter Tryz.func28,Tryz.ntmps28
      go_wp2_with fail
      (with_reducible refine HF.out.mono ?_)
      rintro e w1 ⟨rfl,rfl⟩
      go_wp2_with fail
      go_ret2
      refine⟨some ⟨b2,off2+A,none⟩,l-A,_,rfl,?_,rfl⟩
      rw[HE.out,List.map_take,List.map_drop]
      have:=(HR.out.drop A).take (l-A)
      rwa [Nat.min_self]at this
     ·have hd4:decide ((l:Int)-(A:Int)<(N:Int))=false:=by simp;omega
      have e2:IntKind.i64.wrap ((A:Int)+(N:Int))=(A:Int)+(N:Int):=IntWalk.i64_in _ (by omega)
      have i3:(A:Int)≤(A:Int)+(N:Int):=by omega
      have i4:(A:Int)+(N:Int)≤(c':Int):=by omega
      go_enter Tryz.func28,Tryz.ntmps28
      go_wp2_with fail
      (with_reducible refine HF.out.mono ?_)
      rintro e w1 ⟨rfl,rfl⟩
      go_wp2_with fail
      go_ret2
      refine⟨some ⟨b2,off2+A,none⟩,N,c'-A,?_,?_,rfl⟩
      ·show Ending.returned (.tuple #[.slice (some ⟨b2,off2+A,none⟩) (A+N-A) (c'-A), .int .i64 0])=_
       rw[show A+N-A=N by omega]
      ·rw[List.map_take,List.map_drop]
       have:=(HR.out.drop A).take N
       rwa [Nat.min_eq_right (by omega)]at this
end
theorem pF {T:aH} {id aQ v:Int} (h:nL T id aQ=v) (hv:v≠0):dO T id aQ=(v,T):=by
 unfold dO
 rw[h,if_neg hv]
theorem sD {T:aH} {id aQ v:Int} (h:nK T id aQ=v) (hv:v≠0):eF T id aQ=(v,T):=by
 unfold eF
 rw[h,if_neg hv]
section
variable {F:Nat→Prop} {r:Nat} {T:aH}
set_option maxRecDepth 100000 in
set_option maxHeartbeats 8000000 in
theorem Er (id aQ:Int) (w:World) (h:gU F w r T) (hT:dA T) (ht0:0≤aQ∧aQ≤18446744073709551615):
  Calls Tryz.prog 26 #[ptr r, .int .i64 id, .int .u64 aQ] w (bA F w r (dO T id aQ).2 (.int .i64 (dO T id aQ).1)):=by
 have HF:=Lib.hid (mM id w h hT.totF)
 have hr0:=h.low r h.own
 have HH:=Lib.hid h
 by_cases h0:bK T id=0
 ·obtain⟨x,hx,hk⟩:∃x,aj id T=some x∧x.kind≠2:=by
   unfold bK at h0
   cases hx:aj id T with
   |none=>rw[hx]at h0;cases h0
   |some x=>
    rw[hx]at h0
    exact⟨x,rfl,fun hk=>by simp[hk]at h0⟩
  obtain⟨k,hi,hq⟩:=iO hT.sorted hx
  have hrf:zB T id=k:=by unfold zB;rw[if_pos h0];exact hi
  rw[hrf,h0]at HF
  obtain⟨bN,oN,cN,hc0,hO,hbw,hkl,c0,c1,c2,c3,c4,c5⟩:=h.node hq
  simp only at c0 c1 c2 c3 c4 c5
  have i0:(0:Int)≤k:=by omega
  have hlen:=hT.len
  have xE:=Lib.hid hq
  have HS:=Lib.hid hT.sorted
  obtain⟨i6,a6,b6,s6,d6⟩:=info_parts nodeInfo
  have fD:=Lib.hid (And.intro a6 (And.intro b6 (And.intro s6 d6)))
  obtain⟨aN,SI,aD,cD,aE,cE,h1,h2,h3,h4,h8,h9,h10,h11⟩:=h.head
  obtain⟨p0,p1,p2,pf⟩:=eB h1
  rw[p0]at hc0
  simp only[Option.some.injEq,Value.slice.injEq,true_and]at hc0
  obtain⟨rfl,rfl⟩:=hc0
  have nM:=Lib.hid h1
  have Fa:=Lib.hid h8
  obtain⟨n,hn⟩:∃n,n=T.length:=⟨_,rfl⟩
  rw[←hn]at p0 hlen hkl h2 Fa
  have gW:=Lib.hid hn
  have hf0:=pf 0
  have hfp:=hO.2
  have i1:(k:Int)<n:=by omega
  have hrw:=hr0
  have nN:=Lib.hid (hT.each id x hx)
  have HX:=Lib.hid hx
  have hkx:=hk
  clear a6 b6 s6 d6 h1 h8 h9 h10 h11 hi hrf h hq hn p1 p2 pf hO hT h0
  have he:nL T id aQ=if x.closed=false then 25 else if aQ<x.aQ then 28 else if 1099511627776<aQ then 1 else 0:=by
   unfold nL
   rw[hx]
   simp only[if_neg hk]
  clear hx hk hkx
  cases hcl:x.closed with
  |false=>
   rw[hcl]at c5
   have HQ:=Lib.hid (pF (he.trans (if_pos hcl)) (by omega))
   clear hcl he
   go_enter Tryz.func26,Tryz.ntmps26
   go_wp2_with fail
   (with_reducible refine HF.out.mono ?_)
   rintro e w1 ⟨rfl,rfl⟩
   go_wp2_with fail
   go_ret
   exact bA.no HH.out (Below.refl _ _) HQ.out
  |true=>
   rw[hcl]at c5
   rw[if_neg (by rw[hcl];decide)]at he
   by_cases h5:aQ<x.aQ
   ·have HQ:=Lib.hid (pF (he.trans (if_pos h5)) (by omega))
    have hd5:decide (aQ<x.aQ)=true:=by simpa using h5
    clear hcl he
    go_enter Tryz.func26,Tryz.ntmps26
    go_wp2_with fail
    (with_reducible refine HF.out.mono ?_)
    rintro e w1 ⟨rfl,rfl⟩
    go_wp2_with fail
    go_ret
    exact bA.no HH.out (Below.refl _ _) HQ.out
   ·rw[if_neg h5]at he
    have hd5:decide (aQ<x.aQ)=false:=by simpa using h5
    by_cases h6:1099511627776<aQ
    ·have HQ:=Lib.hid (pF (he.trans (if_pos h6)) (by omega))
     have hd6:decide ((1099511627776:Int)<aQ)=true:=by simpa using h6
     clear hcl he
     go_enter Tryz.func26,Tryz.ntmps26
     go_wp2_with fail
     (with_reducible refine HF.out.mono ?_)
     rintro e w1 ⟨rfl,rfl⟩
     go_wp2_with fail
     go_ret
     exact bA.no HH.out (Below.refl _ _) HQ.out
    ·have hd6:decide ((1099511627776:Int)<aQ)=false:=by simpa using h6
     have HQ:Hid (dO T id aQ=(0,bf id (fun x=>{x with aQ:=aQ}) T)):=by
      show dO T id aQ=_
      unfold dO
      rw[he,if_neg h6]
      rfl
     clear hcl he
     go_enter Tryz.func26,Tryz.ntmps26
     go_wp2_with fail
     (with_reducible refine HF.out.mono ?_)
     rintro e w1 ⟨rfl,rfl⟩
     go_upto_region 10 with(fail)
     go_cut [] (fun wx=>bL w r (.slice aD (List.map (fun q:Int×bF=>q.2.b) T).length cD) (.slice aE (aU T).length cE) T wx)
     case first=>
      go_wp2_with ((at_builtin;refine eY rfl _ _ 99 rfl w.heap.size 98 _ _ 6 48 Tryz.underlying99 fD.out.1 fD.out.2.1 fD.out.2.2.1 fD.out.2.2.2 rfl (by omega) _ 0 [] rfl (dB (MapKept.heap_alloc w _).1 (Nat.le_refl _)) _ n _ (T.flatMap bV) rfl (Fa.out.below ((Below.refl _ _).alloc (Nat.le_refl _) _) (Nat.le_refl _)) (dI _) (by unfold maxLen;omega) (by omega) (by simp) ?_;intro A1 c1' w1 hown1 hb1;have hB1:=((Below.refl w.heap.size w).alloc (Nat.le_refl _) _).trans hb1;have hf1:w1.frozen? ⟨r,0,none⟩=false:=(hB1.frozen (p:=⟨r,0,none⟩) hrw).trans hf0;have Kn:=(hB1.cell (p:=⟨r,0,none⟩) hrw).trans p0))
      go_meet
      obtain⟨-,hcc,-,hrow2⟩:=kP (w:=w) hown1 (by unfold maxLen;omega) (Nat.le_refl _)
      have hn:=gW.out
      rw[List.nil_append,Nat.zero_add,hn]at hrow2
      rw[Nat.zero_add,hn]at hcc
      have:=bL.Mt hrw nM.out hB1 hcc hrow2 (jq hown1)
      rw[←hn]at this
      exact this
     case rest=>
      obtain⟨w1,rfl⟩:∃w1:World,w1=wc:=⟨_,rfl⟩
      obtain⟨g,off,c,q0,-,-,hlc,qf,hgr,hg1,hg2,hr1,gf,d0,d1,d2,d3,d4,d5⟩:=hcut.facts xE.out
      rw[←gW.out]at q0
      have E_:=gf (off+k*6+4)
      have HM:=Lib.hid hcut
      have MQ:=Lib.hid q0
      clear hcut qf gf hlc
      go_wp2_with fail
      go_ret
      rw[HQ.out]
      have h0:=MQ.out
      rw[gW.out]at h0
      have:=bL.gX HM.out (by rw[←gW.out]at h0⊢;exact h0) (k:=k) (j:=4) (q':=(id,{x with aQ:=aQ})) (v:= .int .u64 aQ) xE.out (by omega) rfl
      rw[←Nat.add_assoc]at this
      have h7:=fT.nu HH.out nM.out this (.int .i64 0)
      have h8:=kN (f:=fun x:bF=>{x with aQ:=aQ}) HS.out xE.out
      simp only at h8
      rw[h8]at h7
      refine⟨h7.1,h7.2.1,?_⟩
      rw[kV (fun _=>by exact rfl),jP (fun _=>by exact rfl)]
      exact h7.2.2
 ·have HQ:=Lib.hid (pF (T:=T) (id:=id) (aQ:=aQ) (v:=bK T id) (by
   unfold nL bK at*
   cases hx:aj id T with
   |none=>rfl
   |some x=>
    rw[hx]at h0
    by_cases hk:x.kind=2
    ·simp[hk]
    ·exact absurd (by simp[hk]) h0) h0)
  generalize bK T id=f at*
  have hne:(f==0)=false:=by simpa using h0
  have hne2:(f !=0)=true:=by simpa using h0
  clear h hT h0
  go_enter Tryz.func26,Tryz.ntmps26
  go_wp2_with fail
  (with_reducible refine HF.out.mono ?_)
  rintro e w1 ⟨rfl,rfl⟩
  go_wp2_with fail
  go_ret
  exact bA.no HH.out (Below.refl _ _) HQ.out
end
end Go.Proofs.YtohpcppeajijnaaGreat
