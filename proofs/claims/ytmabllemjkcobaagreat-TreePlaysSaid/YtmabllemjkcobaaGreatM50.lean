/- (*tree.Tree).names. (*tree.Tree).Names. permafrostlaw11.sound. What the laws over 'played' lean on. ref7.Join; what is joined is split again. The reference's Names, plainly: the tree's own, in one order. -/
import Derived.Test.YtmabllemjkcobaaGreatM48
import Derived.Test.YtmabllemjkcobaaGreatM16
import Derived.Deep.CutBlock
import Derived.Deep.DeepCutAuto
import Derived.Test.YtmabllemjkcobaaGreatM49
import Derived.Test.YtmabllemjkcobaaGreatM30
import Derived.Test.YtmabllemjkcobaaGreatM36
import Derived.Test.YtmabllemjkcobaaGreatM20
namespace Go.Proofs.YtmabllemjkcobaaGreat
open Go.ChangeShapes Go.WideShapes Go.ChangeAt Go.RowKit
set_option linter.unusedVariables false
set_option linter.unusedSimpArgs false
theorem GL:(Tryz.prog.info? 9).map (fun i=>(i.zero,i.size,i.bytes))=some (some (.string ByteArray.empty),1,16):=by kernel_rfl
theorem DK:(Tryz.prog.info? 26).map (fun i=>(i.zero,i.size,i.bytes))=some (some (.slice none 0 0),1,24):=by kernel_rfl
section
variable {g:Nat→Own} {D:Nat→Prop} {p mb:Nat} {ib nb:Int→Nat} {T:aG}
def l5 (p B:Nat) (w:World) (id a:Int) (u v:Value) (m:Nat) (xs:List Value) (L:List (List Nm)):Prop:=
 Calls Tryz.prog 128 #[ptr p, .int .i64 id, .int .i64 a,u,v] w fun e w'=>∃v',e= .returned v'∧bV B w v m xs L v' w'
theorem xV {n:Nm} (h:dw n=true):n.length≤16:=by
 unfold dw at h
 simp only[Bool.and_eq_true,decide_eq_true_eq]at h
 exact h.1.1.2
def wP (id a:Int) (q:List Nm):List (List Nm):=if a=id then[q]else[]
def Mh (B:Nat) (w:World) (v:Value) (m:Nat) (xs:List Value) (S:List (List Nm)) (L:Nm×Int→List (List Nm)) (x:bW) (WQ r:Nat) (v1:Value) (wr:World):Prop:=
 ∃left cnt,bV B w v m xs (S++(doneN left x.names).flatMap L) v1 wr∧eP dN wr WQ r (cO x) left cnt∧v1.ownBlock≠some r
theorem Mi {w w1 w2:World} {cv v':Value} {q:List Nm} {k:Nm} {o:Obj} {V:Value} (hV:∀b,V.ownBlock=some b→b<w.heap.size) (hB1:Below w.heap.size w w1) (hq:∀n∈q++[k],n.length≤maxLen)
  (hown:w2.ownsRow w.heap.size 9 1 v' (q.length+1) ((q.map strOf).map .string++[.string (strOf k)])) (hg:(w1.alloc o).grownBy w2 cv.ownBlock) (hcv:∀b,cv.ownBlock=some b→w.heap.size≤b):
  Below w.heap.size w w2∧fF (fun b=>V.ownBlock≠some b) w2 v' (q++[k]):=by
 have hs1:=hB1.size
 have hs2:=hg.size
 have hsa:(w1.alloc o).heap.size=w1.heap.size+1:=by simp
 refine⟨⟨hg.os.trans hB1.os,hg.tape.trans hB1.tape,hg.output.trans hB1.output,by omega,fun b hb=> ?_⟩,?_⟩
 ·refine(hg.block b (by omega) (fun e=> ?_)).trans (((MapKept.heap_alloc w1 o).2 b (by omega)).trans (hB1.block b hb))
  have:=hcv b e.symm
  omega
 ·have h1:w2.ownsRow w.heap.size 9 1 v' (q.length+1) (((q++[k]).map strOf).map .string):=by simpa using hown
  exact(fF.mM h1 hq).weak fun b _ hb he=>by have:=hV b he;omega
set_option maxHeartbeats 4000000 in
theorem sW (B:Nat) (id a:Int) (x:bW) (q:List Nm) (L:Nm×Int→List (List Nm)) (w:World) (u v:Value) (m:Nat) (xs:List Value) (h:aO g D w p mb ib nb T) (hT:dX T) (hx:aj a T=some x) (hk:x.kind=2) (hBw:B≤w.heap.size) (hB:∀b,g b≠ .none∨D b→b<B)
  (hv:w.ownsRow B 26 1 v m xs) (hu:fF (fun b=>v.ownBlock≠some b) w u q) (hq:∀k∈q,k.length≤16) (WB:q.length≤64) (hm:m+(wP id a q++x.names.flatMap L).length≤1000)
  (hc:∀e∈x.names,∀w1 u1 v1 m1 xs1,aO g D w1 p mb ib nb T→B≤w1.heap.size→w1.ownsRow B 26 1 v1 m1 xs1→fF (fun b=>v1.ownBlock≠some b) w1 u1 (q++[e.1])→m1+(L e).length≤1000→l5 p B w1 id e.2 u1 v1 m1 xs1 (L e)):
  l5 p B w id a u v m xs (wP id a q++x.names.flatMap L):=by
 obtain⟨S,hself⟩:∃S,S=wP id a q:=⟨_,rfl⟩
 rw[←hself]at hm⊢
 obtain⟨hc0,hpw,hmw⟩:=h.cell
 have lq:=hT.ids a x hx
 have hok:bC.ok a:=mh lq.1 (by omega)
 have hget:aj a (T.map fun q=>(q.1,ptr (ib q.1)))=some (ptr (ib a)):=by rw[dR,hx];rfl
 have HG:=Lib.hid hget
 have HC:=Lib.hid hc
 have O1:=Lib.hid (hT.each a x hx)
 have HX:=Lib.hid hx
 have HT:=Lib.hid hT
 have Es:=Lib.hid h
 have Bz:=Lib.hid hB
 have HV:=Lib.hid hv
 have HU:=Lib.hid hu
 have HQ:=Lib.hid hq
 have Y8:=Lib.hid (show ∀k∈q,k.length≤maxLen from fun k hk=>by have:=hq k hk;unfold maxLen;omega)
 have Le:=Lib.hid (mU hv)
 have hml:=hm
 rw[List.length_append]at hml
 have HS:=Lib.hid hself
 obtain⟨au,cu,rfl,hcu,hst⟩:=hu
 have HST:=Lib.hid hst
 have HK:=Lib.hid hk
 obtain⟨Ts,hi⟩:=info_parts GL
 have HI:=Lib.hid hi
 obtain⟨Tl,hil⟩:=info_parts DK
 have Sc:=Lib.hid hil
 clear hx hT h hB hv hq hst hget hc hself hk hi hil hc0
 unfold l5
 go_enter Tryz.func128,Tryz.ntmps128
 go_upto_if 15 with(fail)
 go_cut [4] (fun v1 wx=>bV B w v m xs S v1 wx)
 case first=>
  by_cases ha:a=id
  ·have ha':(a==id)=true:=by simpa using ha
   have hS:S=[q]:=by rw[HS.out];exact if_pos ha
   have I7:=Lib.hid (uT au q.length cu (q.map strOf) w HST.out (by omega))
   rw[hS]at hml
   clear ha
   go_wp2_with fail
   (with_reducible refine I7.out.mono ?_)
   rintro e w1 ⟨cv,rfl,hcv,hB1⟩
   obtain⟨ac,cc,rfl,hcc⟩:=jo hcv
   have WC:=Lib.hid hcv
   have HB1:=Lib.hid hB1
   have hs1:=hB1.size
   clear hcv hB1 I7
   go_wp2_with (at_builtin;refine bM rfl _ _ 27 rfl B 26 _ (.slice none 0 0) 24 Tryz.underlying27 Sc.out.1 Sc.out.2.1 Sc.out.2.2.1 Sc.out.2.2.2 rfl v m xs rfl (kQ HV.out fun b hb hbw=>((MapKept.heap_alloc w1 _).2 b (by omega)).trans (HB1.out.block b hbw)) (some ⟨w1.heap.size,0,none⟩) 1 1 [.slice ac q.length cc] rfl (ng _ _) (by simp[Value.oneCell']) (by unfold maxLen;simp at hml;omega) (by simp at hml;omega) (by simp;omega) ?_;intro A1 k1 w2 hown2 hgrow2 _ Bl)
   have Cb:=bV.push HV.out HB1.out WC.out Y8.out hown2 hgrow2 Bl
   go_meet
   rw[hS]
   exact Cb
  ·have ha':(a==id)=false:=by simpa using ha
   have hS:S=[]:=by rw[HS.out];exact if_neg ha
   clear ha
   go_wp2_with fail
   go_meet
   rw[hS]
   exact bV.refl HV.out
 case rest=>
  have Cb:=Lib.hid hcut
  have hK1:=hcut.keeps.size
  have h1:=hcut.tree HV.out Es.out Bz.out
  obtain⟨w1,hw1⟩:∃w1:World,w1=wc:=⟨_,rfl⟩
  rw[←hw1]at Cb hK1 h1⊢
  clear hw1 hcut
  obtain⟨hc0,hpw1,hmw1⟩:=h1.cell
  obtain⟨c0,c1,c2,c3,c4,c5,c7,hiw⟩:=(h1.item a x HX.out).cell
  have gG:=Lib.hid h1.map
  have e2:gF x (nb a)= .map (some (nb a)):=if_pos HK.out
  rw[e2]at c7
  have HN:=Lib.hid ((h1.item a x HX.out).names HK.out)
  have hbw:=HN.out.lt
  have hnbB:nb a<B:=Bz.out (nb a) (.inl (by rw[h1.kZ a x HX.out HK.out];simp))
  clear h1 e2
  go_wp2_with (first|(at_lookup;refine aW bC rfl _ _ 101 99 rfl Tryz.underlying101 (Tryz.bA _) rfl gG.out a rfl hok ?_;rw[HG.out])|(at_range;refine kM dN rfl _ 112 3 rfl Tryz.underlying112 rfl HN.out ?_;intro w0 hR0 hB0 hs0))
  go_frame
  go_loopw [4] (fun v2 wr=>Mh B w v m xs S L x (nb a) w1.heap.size v2 wr) (fun _ wr=>wr.rangeLeft (nb a) w1.heap.size)
  case atStart=>
   refine⟨_,_,?_,hR0,fun he=> ?_⟩
   ·have hD:doneN (fun k=>(aj k (cO x)).isSome) x.names=[]:=Au fun e he=>by rw[eB,bf l8 O1.out.sorted he];rfl
    rw[hD]
    simpa using Cb.out.below hB0
   ·obtain⟨m9,xs9,_,Ui,_⟩:=Cb.out.own
    have:=mU Ui _ he
    omega
  case round=>
   obtain⟨left,cnt,hrel',hR,hne⟩:=hrel
   have TH:=Lib.hid hrel'
   have HR:=Lib.hid hR
   have iA:=Lib.hid hne
   clear hrel' hR hne
   go_wp2_with (first|(at_next;refine l7 dN rfl _ rfl rfl HR.out ?_ ?_))
   ·intro hdone
    have Bv:=Lib.hid hdone
    clear hdone
    go_wp2
    go_ret
    refine⟨_,rfl,?_⟩
    have:=TH.out
    rw[Dk Bv.out]at this
    exact this
   ·intro k v3 w3 cnt1 Nl hleft hg2 om hlt hK1' hs1 hen
    rw[eB]at hg2
    cases hk2:aj k x.names with
    |none=>rw[hk2]at hg2;cases hg2
    |some j=>
     rw[hk2]at hg2
     cases hg2
     have hmem:=bP hk2
     have hrw:=HR.out.lt
     have GN:=TH.out.iter hK1' HR.out.VJ (by omega) iA.out
     have TI:=Lib.hid GN
     have HP3:=Lib.hid (GN.path HU.out)
     obtain⟨au3,cu3,he3,hcu3,Yj⟩:=HP3.out
     simp only[Value.slice.injEq,true_and]at he3
     obtain⟨rfl,rfl⟩:=he3
     have I7:=Lib.hid (uT au q.length cu (q.map strOf) w3 Yj (by omega))
     have hsz3:=GN.keeps.size
     have Gs:=Lib.hid (qW (O1.out.sorted.apart l8) hmem hleft)
     have HTR3:=Lib.hid (GN.tree HV.out Es.out Bz.out)
     have hlm:=Gy L (fun z=>left z&& !decide (z=k)) x.names
     rw[(Gs.out.flatMap_right L).length_eq,List.flatMap_append,List.length_append]at hlm
     simp only[List.flatMap_cons,List.flatMap_nil,List.append_nil]at hlm
     have DY:=Lib.hid ((O1.out).good _ hmem)
     have LZ:=Lib.hid hmem
     have HR1:=Lib.hid om
     have CF:=Lib.hid hlt
     clear hk2 hmem om hlt hK1' GN Yj hleft
     show wpList _ _ _ _ _ _
     have e3:dN.val k= .string (strOf k):=rfl
     rw[e3]at hen⊢
     clear e3
     go_wp2_with fail
     (with_reducible refine I7.out.mono ?_)
     rintro e w4 ⟨cv,rfl,hcv,hB4⟩
     obtain⟨ac,cc,rfl,hcc⟩:=jo hcv
     have WC:=Lib.hid hcv
     have eO:=Lib.hid hB4
     have hs4:=hB4.size
     clear hcv hB4 I7
     go_wp2_with (at_builtin;refine bM rfl _ _ 26 rfl w3.heap.size 9 _ (.string ByteArray.empty) 16 Tryz.underlying26 HI.out.1 HI.out.2.1 HI.out.2.2.1 HI.out.2.2.2 rfl (.slice ac q.length cc) q.length ((q.map strOf).map .string) rfl (kQ WC.out fun b hb hbw=>(MapKept.heap_alloc w4 _).2 b hbw) (some ⟨w4.heap.size,0,none⟩) 1 1 [.string (strOf k)] rfl (ng _ _) (by simp[Value.oneCell']) (by unfold maxLen;omega) (by omega) (by simp;omega) ?_;intro A5 k5 w5 hown5 Pz _ _)
     have Yk:=gB WC.out
     obtain⟨TD,hP5⟩:=Mi (V:=u4) (fun b hb=>mU (TI.out.own).choose_spec.choose_spec.2.1 b hb) eO.out (fun n hn=>by
      rcases List.mem_append.1 hn with h1|h1
      ·exact Y8.out n h1
      ·obtain rfl:n=k:=by simpa using h1
       have:=xV DY.out
       unfold maxLen;omega) hown5 Pz Yk
     have hs5:=TD.size
     have PD:=TI.out.below TD
     obtain⟨m5,xs5,OC,QB,htr⟩:=PD.own
     have HTRN:=Lib.hid htr
     have h5:=PD.tree HV.out Es.out Bz.out
     rw[List.length_append]at OC
     have T_:=Lib.hid (HC.out (k,j) LZ.out w5 (.slice A5 (q.length+1) k5) u4 m5 xs5 h5 (by omega) QB hP5 (by omega))
     have HO5:=Lib.hid QB
     have iW:=Lib.hid TD
     clear h5 htr PD QB hown5 Pz hP5 TD Yk
     have Ua:=Lib.hid (show Calls Tryz.prog 128 #[ptr p, .int .i64 id, .int .i64 j, .slice A5 (q.length+1) k5,u4] w5 _ from T_.out)
     (with_reducible refine Ua.out.mono ?_)
     rintro e w6 ⟨v6,rfl,PE⟩
     have TJ:=Lib.hid PE
     have qH:=Lib.hid PE.keeps
     clear PE
     go_wp2_with fail
     have hkeep:∀b,b<w3.heap.size→u4.ownBlock≠some b→w6.heap[b]? =w3.heap[b]? :=fun b hb hn=>(qH.out.block b (by omega) hn).trans (iW.out.block b hb)
     have Yl:=HR1.out.lt
     have hkn:=hkeep (nb a) Yl.1 (fun he=>by have:=gB HO5.out _ he;omega)
     have hkr:=hkeep w1.heap.size Yl.2.1 iA.out
     go_roundw
     case rel=>
      refine⟨_,cnt1,(HTRN.out _ _ _ TJ.out).perm ?_,HR1.out.kept hkn hkr,fun he=> ?_⟩
      ·have hp:=Gs.out.flatMap_right L
       rw[List.flatMap_append]at hp
       simp only[List.flatMap_cons,List.flatMap_nil,List.append_nil]at hp
       rw[List.append_assoc]
       exact hp.symm.append_left S
      ·rcases TJ.out.new _ he with h1|h1
       ·exact iA.out h1
       ·omega
     case measure=>
      have h4:eP dN w6 (nb a) w1.heap.size (cO x) _ cnt1:=HR1.out.kept hkn hkr
      rw[h4.measure,HR.out.measure]
      exact CF.out
set_option maxHeartbeats 4000000 in
theorem rF (B:Nat) (id a:Int) (x:bW) (q:List Nm) (L:Nm×Int→List (List Nm)) (w:World) (u v:Value) (m:Nat) (xs:List Value) (h:aO g D w p mb ib nb T) (hT:dX T) (hx:aj a T=some x) (hk:¬x.kind=2) (hBw:B≤w.heap.size) (hB:∀b,g b≠ .none∨D b→b<B)
  (hv:w.ownsRow B 26 1 v m xs) (hu:fF (fun b=>v.ownBlock≠some b) w u q) (hq:∀k∈q,k.length≤16) (WB:q.length≤64) (hm:m+(wP id a q++x.names.flatMap L).length≤1000)
  (hc:∀e∈x.names,∀w1 u1 v1 m1 xs1,aO g D w1 p mb ib nb T→B≤w1.heap.size→w1.ownsRow B 26 1 v1 m1 xs1→fF (fun b=>v1.ownBlock≠some b) w1 u1 (q++[e.1])→m1+(L e).length≤1000→l5 p B w1 id e.2 u1 v1 m1 xs1 (L e)):
  l5 p B w id a u v m xs (wP id a q++x.names.flatMap L):=by
 obtain⟨S,hself⟩:∃S,S=wP id a q:=⟨_,rfl⟩
 rw[←hself]at hm⊢
 obtain⟨hc0,hpw,hmw⟩:=h.cell
 have lq:=hT.ids a x hx
 have hok:bC.ok a:=mh lq.1 (by omega)
 have hget:aj a (T.map fun q=>(q.1,ptr (ib q.1)))=some (ptr (ib a)):=by rw[dR,hx];rfl
 have HG:=Lib.hid hget
 have HC:=Lib.hid hc
 have O1:=Lib.hid (hT.each a x hx)
 have HX:=Lib.hid hx
 have HT:=Lib.hid hT
 have Es:=Lib.hid h
 have Bz:=Lib.hid hB
 have HV:=Lib.hid hv
 have HU:=Lib.hid hu
 have HQ:=Lib.hid hq
 have Y8:=Lib.hid (show ∀k∈q,k.length≤maxLen from fun k hk=>by have:=hq k hk;unfold maxLen;omega)
 have Le:=Lib.hid (mU hv)
 have hml:=hm
 rw[List.length_append]at hml
 have HS:=Lib.hid hself
 obtain⟨au,cu,rfl,hcu,hst⟩:=hu
 have HST:=Lib.hid hst
 have HK:=Lib.hid hk
 obtain⟨Ts,hi⟩:=info_parts GL
 have HI:=Lib.hid hi
 obtain⟨Tl,hil⟩:=info_parts DK
 have Sc:=Lib.hid hil
 clear hx hT h hB hv hq hst hget hc hself hk hi hil hc0
 unfold l5
 go_enter Tryz.func128,Tryz.ntmps128
 go_upto_if 15 with(fail)
 go_cut [4] (fun v1 wx=>bV B w v m xs S v1 wx)
 case first=>
  by_cases ha:a=id
  ·have ha':(a==id)=true:=by simpa using ha
   have hS:S=[q]:=by rw[HS.out];exact if_pos ha
   have I7:=Lib.hid (uT au q.length cu (q.map strOf) w HST.out (by omega))
   rw[hS]at hml
   clear ha
   go_wp2_with fail
   (with_reducible refine I7.out.mono ?_)
   rintro e w1 ⟨cv,rfl,hcv,hB1⟩
   obtain⟨ac,cc,rfl,hcc⟩:=jo hcv
   have WC:=Lib.hid hcv
   have HB1:=Lib.hid hB1
   have hs1:=hB1.size
   clear hcv hB1 I7
   go_wp2_with (at_builtin;refine bM rfl _ _ 27 rfl B 26 _ (.slice none 0 0) 24 Tryz.underlying27 Sc.out.1 Sc.out.2.1 Sc.out.2.2.1 Sc.out.2.2.2 rfl v m xs rfl (kQ HV.out fun b hb hbw=>((MapKept.heap_alloc w1 _).2 b (by omega)).trans (HB1.out.block b hbw)) (some ⟨w1.heap.size,0,none⟩) 1 1 [.slice ac q.length cc] rfl (ng _ _) (by simp[Value.oneCell']) (by unfold maxLen;simp at hml;omega) (by simp at hml;omega) (by simp;omega) ?_;intro A1 k1 w2 hown2 hgrow2 _ Bl)
   have Cb:=bV.push HV.out HB1.out WC.out Y8.out hown2 hgrow2 Bl
   go_meet
   rw[hS]
   exact Cb
  ·have ha':(a==id)=false:=by simpa using ha
   have hS:S=[]:=by rw[HS.out];exact if_neg ha
   clear ha
   go_wp2_with fail
   go_meet
   rw[hS]
   exact bV.refl HV.out
 case rest=>
  have Cb:=Lib.hid hcut
  have hK1:=hcut.keeps.size
  have h1:=hcut.tree HV.out Es.out Bz.out
  obtain⟨w1,hw1⟩:∃w1:World,w1=wc:=⟨_,rfl⟩
  rw[←hw1]at Cb hK1 h1⊢
  clear hw1 hcut
  obtain⟨hc0,hpw1,hmw1⟩:=h1.cell
  obtain⟨c0,c1,c2,c3,c4,c5,c7,hiw⟩:=(h1.item a x HX.out).cell
  have gG:=Lib.hid h1.map
  have e2:gF x (nb a)= .map none:=if_neg HK.out
  rw[e2]at c7
  have Ij:=Lib.hid (O1.out.file (O1.out.kind.resolve_right HK.out))
  clear h1 e2
  go_wp2_with (first|(at_lookup;refine aW bC rfl _ _ 101 99 rfl Tryz.underlying101 (Tryz.bA _) rfl gG.out a rfl hok ?_;rw[HG.out])|(at_range;refine lu rfl _ 112 9 3 rfl Tryz.underlying112 rfl ?_))
  go_frame
  go_loopw [4] (fun v2 wr=>bV B w v m xs S v2 wr∧wr.heap[w1.heap.size]? =some (.mapIter none 0 #[] 0)) (fun _ wr=>0)
  case atStart=>exact⟨Cb.out.below (wall w1 _),(MapKept.heap_alloc w1 _).1⟩
  case round=>
   obtain⟨hr,hit⟩:=hrel
   have HRR:=Lib.hid hr
   clear hr
   go_wp2_with (first|(at_next;refine mO rfl _ rfl rfl hit ?_))
   go_ret
   refine⟨_,rfl,?_⟩
   rw[Ij.out]
   simpa using HRR.out
theorem uJ (hT:dX T):∀(n B:Nat) (id a:Int) (q:List Nm) (w:World) (u v:Value) (m:Nat) (xs:List Value),aO g D w p mb ib nb T→(aj a T).isSome=true→vJ T n a→B≤w.heap.size→(∀b,g b≠ .none∨D b→b<B)→
  w.ownsRow B 26 1 v m xs→fF (fun b=>v.ownBlock≠some b) w u q→(∀k∈q,k.length≤16)→q.length+n≤64→m+(gZ T id n a q).length≤1000→l5 p B w id a u v m xs (gZ T id n a q)
 |0,B,id,a,q,w,u,v,m,xs,h,ha,hs,hBw,hB,hv,hu,hq,WB,hm=>by
  obtain⟨x,hx⟩:=Option.isSome_iff_exists.1 ha
  have e:x.names=[]:=by have h1:aX T a=[]:=hs;rw[dK hx]at h1;exact h1
  have e2:gZ T id 0 a q=wP id a q++x.names.flatMap fun _=>[]:=by rw[e];simp[gZ,wP]
  rw[e2]at hm⊢
  have hc:∀e∈x.names,∀w1 u1 v1 m1 xs1,aO g D w1 p mb ib nb T→B≤w1.heap.size→w1.ownsRow B 26 1 v1 m1 xs1→fF (fun b=>v1.ownBlock≠some b) w1 u1 (q++[e.1])→m1+([]:List (List Nm)).length≤1000→l5 p B w1 id e.2 u1 v1 m1 xs1 []:=fun y hy=>by rw[e]at hy;cases hy
  by_cases hk:x.kind=2
  ·exact sW B id a x q (fun _=>[]) w u v m xs h hT hx hk hBw hB hv hu hq (by omega) hm hc
  ·exact rF B id a x q (fun _=>[]) w u v m xs h hT hx hk hBw hB hv hu hq (by omega) hm hc
 |n+1,B,id,a,q,w,u,v,m,xs,h,ha,hs,hBw,hB,hv,hu,hq,WB,hm=>by
  obtain⟨x,hx⟩:=Option.isSome_iff_exists.1 ha
  have e:=dK hx
  have e2:gZ T id (n+1) a q=wP id a q++x.names.flatMap fun e=>gZ T id n e.2 (q++[e.1]):=by rw[←e];rfl
  rw[e2]at hm⊢
  have hc:∀e∈x.names,∀w1 u1 v1 m1 xs1,aO g D w1 p mb ib nb T→B≤w1.heap.size→w1.ownsRow B 26 1 v1 m1 xs1→fF (fun b=>v1.ownBlock≠some b) w1 u1 (q++[e.1])→m1+(gZ T id n e.2 (q++[e.1])).length≤1000→l5 p B w1 id e.2 u1 v1 m1 xs1 (gZ T id n e.2 (q++[e.1])):=fun y hy w1 u1 v1 m1 xs1 h1 h2 h3 h4 h5=>
   uJ hT n B id y.2 (q++[y.1]) w1 u1 v1 m1 xs1 h1 (hT.leads a x hx y hy).1 (hs y (by rw[e];exact hy)) h2 hB h3 h4 (fun k hk=>by
    rcases List.mem_append.1 hk with h6|h6
    ·exact hq k h6
    ·obtain rfl:k=y.1:=by simpa using h6
     exact xV ((hT.each a x hx).good y hy)) (by simp;omega) h5
  by_cases hk:x.kind=2
  ·exact sW B id a x q _ w u v m xs h hT hx hk hBw hB hv hu hq (by omega) hm hc
  ·exact rF B id a x q _ w u v m xs h hT hx hk hBw hB hv hu hq (by omega) hm hc
end
def Mj (w:World) (L:List (List Nm)) (e:Ending) (w':World):Prop:=
 ∃a c vals l,e= .returned (.slice a l.length c)∧l.length≤c∧l.Perm L∧iU (fun b=>w.heap.size≤b∧b<w'.heap.size) w' vals l∧aC (fun b=>w.heap.size≤b∧b<w'.heap.size) w' a l.length vals∧Below w.heap.size w w'∧KA l
theorem Ju {T:aG} (hO:fG T) {id:Int} {q:List Nm} (h:q∈pV T id):Small q:=by
 obtain⟨h1,h2,_,_⟩:=DF hO ((oJ hO).1 h)
 exact⟨by omega,fun n hn=>xV (h2 n hn)⟩
section
variable {W w:World} {P:Nat→Prop} {p:Nat} {T:aG}
set_option maxHeartbeats 2000000 in
theorem Mk (h:dS W P w p T) (hO:fG T) (id:Int):Calls Tryz.prog 56 #[ptr p, .int .i64 id] w (Mj w (pV T id)):=by
 obtain⟨g,D,mb,ib,nb,hA,hF⟩:=h.at_
 have hO2:=hO
 obtain⟨hT,dep,hd⟩:=hO2
 have hle:=Ez hO id
 have HN:=Lib.hid (uJ hT 8 w.heap.size id 0 [] w (.slice none 0 0) (.slice none 0 0) 0 [] hA (eF hT) (hd.JZ hT 0) (Nat.le_refl _) (fun b hb=>hb.elim (hA.low b) (hA.pY b)) ⟨rfl, .inl ⟨rfl,rfl⟩⟩ (xU _ _) (fun k hk=>by simp at hk) (by simp) (by have h9:(gZ T id 8 0 []).length≤64:=hle;omega))
 have IC:Hid (∀q∈pV T id,Small q):=fun q hq=>Ju hO hq
 obtain⟨L,hL⟩:∃L,L=pV T id:=⟨_,rfl⟩
 change Hid (l5 p w.heap.size w id 0 _ _ 0 [] (pV T id))at HN
 rw[←hL]at HN IC⊢
 rw[←hL]at hle
 have WA:Hid (Calls Tryz.prog 128 #[ptr p, .int .i64 id, .int .i64 0, .slice none 0 0, .slice none 0 0] w fun e w'=>∃v',e= .returned v'∧bV w.heap.size w (.slice none 0 0) 0 [] L v' w'):=HN.out
 clear hL hA hF hT hd h hO HN
 go_enter Tryz.func56,Tryz.ntmps56
 go_wp2_with fail
 (with_reducible refine WA.out.mono ?_)
 rintro e w1 ⟨v1,rfl,vals,l,hp,ho,hv,hK,hb⟩
 have hB1:Below w.heap.size w w1:=hK.jl (Nat.le_refl _) fun x _ hx=>by cases hx
 have hs1:=hB1.size
 rw[Nat.zero_add,List.nil_append]at ho
 have hlen:l.length≤64:=by rw[hp.length_eq];exact hle
 have hsm:∀q∈l,Small q:=fun q hq=>IC.out q (hp.mem_iff.1 hq)
 have hform:=ho.2
 rcases hform with⟨hv0,hn0⟩|⟨gb,cap,cur,hv0,hg,_,hcap,_,_⟩
 ·subst hv0
  have HV:=Lib.hid hv
  have HP:=Lib.hid hp
  have HO:=Lib.hid ho
  have HB1:=Lib.hid hB1
  obtain⟨hvl,hvv⟩:=hv
  obtain rfl:l=[]:=List.eq_nil_of_length_eq_zero hn0
  obtain rfl:vals=[]:=List.eq_nil_of_length_eq_zero hvl
  clear ho hp hB1 hvl hvv hb hsm hK WA
  go_wp2_with fail
  (with_reducible refine(Mg _ _).mono ?_)
  rintro e w2 ⟨rfl,rfl⟩
  go_wp2_with fail
  go_ret
  exact⟨none,0,[],[],rfl,Nat.le_refl _,HP.out,⟨rfl,fun i q hq=>by simp at hq⟩,aC.nil _ _ _,HB1.out,List.Pairwise.nil⟩
 ·subst hv0
  have HSN:=Lib.hid (Jt (S:=fun b=>w.heap.size≤b) w1 gb l.length cap vals l (by omega) ho (hv.move (Nat.le_refl _) fun b hb hbw=>⟨⟨fun he=>hb.2.2 (by rw[he];rfl),hb.1⟩,rfl⟩) hsm)
  have HV:=Lib.hid hv
  have HP:=Lib.hid hp
  have HB1:=Lib.hid hB1
  have hgw:=mU ho gb rfl
  clear ho hp hB1 hb hsm hK WA hv
  obtain⟨n,hn⟩:∃n,n=l.length:=⟨_,rfl⟩
  have rC:=Lib.hid hn
  rw[←hn]at HSN hcap hlen⊢
  clear hn
  go_wp2_with fail
  (with_reducible refine HSN.out.mono ?_)
  rintro e w2 ⟨rfl,vals',l',hp',hv',hr',hK',hwk⟩
  have HWK:=Lib.hid hwk
  have HV2:=Lib.hid hv'
  have Wx:=Lib.hid hp'
  have HR2:=Lib.hid hr'
  have DZ:=Lib.hid hK'
  clear hv' hp' hr' hK' hwk
  go_wp2_with fail
  go_ret
  have hs2:=DZ.out.size
  have hln:l'.length=n:=by rw[rC.out];exact Wx.out.length_eq
  refine⟨some ⟨gb,0,none⟩,cap,vals',l',by rw[hln];rfl,by omega,Wx.out.trans HP.out,?_,?_,?_,HWK.out⟩
  ·exact HV2.out.move (Nat.le_refl _) fun b hb hbw=>⟨⟨hb.2.2,hbw⟩,rfl⟩
  ·rw[hln]
   exact HR2.out.move (Nat.le_refl _) fun b hb hbw=>⟨⟨by rw[hb];exact hg,hbw⟩,rfl⟩
  ·exact HB1.out.trans (DZ.out.jl HB1.out.size fun x hx he=>by rw[he]at hx;omega)
end
theorem wF (T:aG) (id:Int):∃(v0 v1 v2 v3 v4:Int) (v5:Bool),jf T id= .agg #[.int .i64 v0, .int .i64 v1, .int .i64 v2, .int .i64 v3, .int .u64 v4, .bool v5]:=by
 unfold jf
 cases aj id T with
 |none=>exact⟨_,_,_,_,_,_,rfl⟩
 |some y=>exact⟨_,_,_,_,_,_,rfl⟩
section
variable {W w:World} {P:Nat→Prop} {p:Nat} {T:aG}
end
theorem GQ (ss:List ByteArray):(y9 ss).length=ss.length:=by simp[y9]
theorem Cc (sep:List UInt8) (l:List (List UInt8)) (x:List UInt8):Lib.joinTail sep (l++[x])=Lib.joinTail sep l++(sep++x):=by simp[Lib.joinTail]
theorem uK (l:List (List UInt8)) (h:l≠[]):bK l=Lib.joinTail [47] l:=by
 cases l with
 |nil=>exact absurd rfl h
 |cons x r=>simp[bK,Lib.join_cons,Lib.joinTail]
theorem PG (ss:List ByteArray) (k:Nat) (x:ByteArray) (h:ss[k]? =some x):y9 (ss.take (k+1))=y9 (ss.take k)++[x.data.toList]:=by
 obtain⟨hk,e⟩:=List.getElem?_eq_some_iff.1 h
 rw[List.take_add_one,h]
 simp[y9]
theorem Ce (sep:List UInt8) (l:List (List UInt8)) (k:Nat):(Lib.joinTail sep (l.take k)).length≤(Lib.joinTail sep l).length:=by
 have h:Lib.joinTail sep l=Lib.joinTail sep (l.take k)++Lib.joinTail sep (l.drop k):=by
  unfold Lib.joinTail
  rw[←List.flatten_append,←List.map_append,List.take_append_drop]
 rw[h,List.length_append]
 omega
theorem Ml {S:Nat→Prop} (a:Option Addr) (len cap:Nat) (ss:List ByteArray) (w:World) (h:aK S w a len ss) (hj:(bK (y9 ss)).length≤140737488355328):
  Calls Tryz.prog 133 #[.slice a len cap] w fun e w'=>e= .returned (.string (A8 (bK (y9 ss))))∧Below w.heap.size w w':=by
 have hl:=h.length
 have hm:=h.row.small
 unfold maxLen at hm
 by_cases h0:len=0
 ·subst h0
  obtain rfl:ss=[]:=by simpa using hl
  go_enter Tryz.func133,Tryz.ntmps133
  go_wp2
  go_ret
  exact⟨A_ rfl,Below.refl _ _⟩
 ·have hb0:((len:Int)==0)=false:=by simp[h0]
  have HL:=Lib.hid hl
  have H0:=Lib.hid h0
  clear hl h0
  go_enter Tryz.func133,Tryz.ntmps133
  go_wp2
  go_loopw [3,4] (fun t i wr=>∃k:Nat,k≤len∧i= .int .i64 k∧t= .string (A8 (Lib.joinTail [47] (y9 (ss.take k))))∧Below w.heap.size w wr) (fun _ i _=>len-(intOf i).toNat)
  case atStart=>exact⟨0,by omega,rfl,rfl,Below.refl _ _⟩
  case round=>
   obtain⟨k,hk,rfl,rfl,hb⟩:=hrel
   by_cases hlt:k<len
   ·obtain⟨b,off,x,rfl,_,_,hx,_,hc⟩:=(h.below hb (Nat.le_refl _)).cell k hlt
    obtain⟨t,ht⟩:∃t,t=A8 (Lib.joinTail [47] (y9 (ss.take k))):=⟨_,rfl⟩
    rw[←ht]
    have hs:A8 (Lib.joinTail [47] (y9 (ss.take (k+1))))=t++⟨#[47]⟩++x:=by
     rw[PG ss k x hx,Cc,ht]
     apply WideShapes.bytes_inj
     simp[wI]
    have hsz:t.size+1+x.size≤140737488355328:=by
     have h1:=congrArg ByteArray.size hs
     rw[Gv]at h1
     have h2:=Ce [47] (y9 ss) (k+1)
     have h5:bK (y9 ss)=Lib.joinTail [47] (y9 ss):=uK _ (by intro e;have e1:=congrArg List.length e;rw[GQ,HL.out]at e1;simp at e1;omega)
     rw[←h5]at h2
     have h3:y9 (ss.take (k+1))=(y9 ss).take (k+1):=by simp[y9]
     rw[h3]at h1
     simp[ByteArray.size_append]at h1
     have h4:(⟨#[47]⟩:ByteArray).size=1:=rfl
     omega
    have HS:=Lib.hid hs
    clear hs hx h ht hj
    go_wp2
    go_roundw
    case rel=>exact⟨k+1,by omega,by go_num,by rw[HS.out],hb⟩
    case measure=>simp[intOf];omega
   ·have hk':k=len:=by omega
    have HK:=Lib.hid hk'
    clear hk'
    go_wp2
    go_ret
    refine⟨A_ ?_,hb⟩
    have hl:=HL.out
    have h0:=H0.out
    rw[List.take_of_length_le (by have:=HK.out;omega),uK]
    intro e
    have:=congrArg List.length e
    rw[GQ]at this
    simp at this
    rw[this]at hl
    exact h0 (by simpa using hl.symm)
theorem Mq (ls:List (List UInt8)) (hg:ls.all dw=true):bS ls=if 8<ls.length then 3 else 0:=by
 unfold bS
 rw[if_neg]
 rw[List.any_eq_true]
 rintro ⟨x,hx,h⟩
 rw[List.all_eq_true]at hg
 simp[hg x hx]at h
theorem uL (ls:List (List UInt8)) (hg:ls.all dw=true) (h8:ls.length≤8):Cj (bK ls)=(ls,0):=by
 cases ls with
 |nil=>rfl
 |cons x r=>
  have hns:∀y∈x::r,∀c∈y,c≠47:=fun y hy=>BI y (List.all_eq_true.1 hg y hy)
  have hs:=Hw (x::r) (by simp) hns
  have hx:x≠[]:=by
   intro e
   have:=List.all_eq_true.1 hg x (by simp)
   subst e
   exact absurd this (by decide)
  have hj:Lib.join (x::r) [47]≠[]:=by
   rw[Lib.join_cons]
   simp[hx]
  have hf:bS (x::r)=0:=by rw[Mq _ hg,if_neg (by omega)]
  simp only[bK,Cj,ne_eq,not_true_eq_false,if_false,hj,hs,hf,if_true]
theorem Bn {S:Nat→Prop} {w:World} {u:Value} {q:List Nm} (h:fF S w u q) (hq:Small q):Calls Tryz.prog 133 #[u] w fun e w'=>e= .returned (.string (A8 (bK q)))∧Below w.heap.size w w':=by
 obtain⟨a,c,rfl,hc,hs⟩:=h
 have hj:=Bb hq
 have h1:(bK q).length≤2001:=by unfold bK;simp only[List.length_cons];omega
 have:=Ml a q.length c (q.map strOf) w hs (by rw[nN];omega)
 rw[nN]at this
 exact this
def kJ (p q:List Nm):Bool:=bytesBefore (bK p) (bK q)
def rO (out:List (List Nm)) (p:List Nm):List (List Nm):=out.takeWhile (fun q=>kJ q p)++p::out.dropWhile (fun q=>kJ q p)
theorem Mr (y:List Nm) (r:List (List Nm)) (p:List Nm):rO (y::r) p=if kJ y p=true then y::rO r p else p::y::r:=by
 unfold rO
 rw[List.takeWhile_cons,List.dropWhile_cons]
 split<;>rfl
theorem Bo (out:List (List Nm)) (p:List Nm):(rO out p).Perm (p::out):=by
 have h:(rO out p).Perm (p::(out.takeWhile (fun q=>kJ q p)++out.dropWhile (fun q=>kJ q p))):=List.perm_middle
 rwa [List.takeWhile_append_dropWhile]at h
def Weak (l:List (List Nm)):Prop:=l.Pairwise fun a b=>kJ b a=false
theorem Sd {a b:List Nm} (h:kJ a b=true):kJ b a=false:=by
 cases h2:kJ b a with
 |false=>rfl
 |true=>
  have:=l8.trans _ _ _ h h2
  rw[l8.YF]at this
  cases this
theorem Sg {p y z:List Nm} (h1:kJ y p=false) (h2:kJ z y=false):kJ z p=false:=by
 cases h3:kJ z p with
 |false=>rfl
 |true=>
  by_cases he:bK z=bK y
  ·unfold kJ at h1 h3
   rw[he,h1]at h3
   cases h3
  ·rcases l8.tot _ _ he with h4|h4
   ·have h5:kJ z y=true:=h4
    rw[h2]at h5
    cases h5
   ·have h5:kJ y p=true:=l8.trans _ _ _ h4 h3
    rw[h1]at h5
    cases h5
theorem GR {p:List Nm}:∀{out:List (List Nm)},Weak out→Weak (rO out p)
 |[],_=>List.pairwise_singleton _ _
 |y::r,h=>by
  obtain⟨h1,h2⟩:=List.pairwise_cons.1 h
  rw[Mr]
  by_cases hy:kJ y p=true
  ·rw[if_pos hy]
   refine List.pairwise_cons.2 ⟨fun z hz=> ?_,GR h2⟩
   rcases List.mem_cons.1 ((Bo r p).mem_iff.1 hz)with h3|h3
   ·rw[h3];exact Sd hy
   ·exact h1 z h3
  ·rw[if_neg hy]
   have hy':kJ y p=false:=by simpa using hy
   refine List.pairwise_cons.2 ⟨fun z hz=> ?_,h⟩
   rcases List.mem_cons.1 hz with h3|h3
   ·rw[h3];exact hy'
   ·exact Sg hy' (h1 z h3)
theorem lX:∀(X out:List (List Nm)),(X.foldl rO out).Perm (out++X)
 |[],out=>by rw[List.append_nil];exact List.Perm.refl _
 |x::r,out=>by
  rw[List.foldl_cons]
  exact(lX r (rO out x)).trans ((List.Perm.append_right r (Bo out x)).trans List.perm_middle.symm)
theorem DL:∀(X:List (List Nm)) {out:List (List Nm)},Weak out→Weak (X.foldl rO out)
 |[],_,h=>h
 |x::r,_,h=>by rw[List.foldl_cons];exact DL r (GR h)
def yY (f:Int→List (List Nm)) (id:Int) (e:iT):List (List Nm):=if e.2.2=id then(f e.1).map fun u=>u++[e.2.1]else[]
def bI (T:aG):Nat→Int→List (List Nm)
 |0,_=>[[]]
 |n+1,id=>if id=0 then[[]]else((aT T).flatMap (yY (bI T n) id)).foldl rO []
def EH (T:aG) (n:Nat) (id:Int) (k:Nat):List (List Nm):=(((aT T).take k).flatMap (yY (bI T n) id)).foldl rO []
theorem GU {T:aG} {n:Nat} {id:Int} {k:Nat} {e:iT} (hx:(aT T)[k]? =some e):EH T n id (k+1)=(yY (bI T n) id e).foldl rO (EH T n id k):=by
 obtain⟨hk,h⟩:=List.getElem?_eq_some_iff.1 hx
 unfold EH
 rw[List.take_succ_eq_append_getElem hk,List.flatMap_append,List.foldl_append,h,List.flatMap_cons,List.flatMap_nil,List.append_nil]
theorem Si {T:aG} {n:Nat} {id:Int} {k:Nat} (h0:id≠0) (hk:(aT T).length≤k):EH T n id k=bI T (n+1) id:=by
 unfold EH bI
 rw[List.take_of_length_le hk,if_neg h0]
def Ht (T:aG) (dep:Int→Nat) (id:Int):Nat:=if bO T id=2 then min (dep id) 9 else 9
theorem PI {T:aG} (hT:dX T) {e:iT} (he:e∈aT T):∃x,aj e.1 T=some x∧x.kind=2∧aj e.2.1 x.names=some e.2.2:=by
 obtain⟨q,hq,hk,hm⟩:=ze he
 have hx:=bf dU hT.sorted hq
 rw[hk]at hx
 have h1:=hT.each _ _ hx
 refine⟨q.2,hx,?_,bf l8 h1.sorted hm⟩
 rcases h1.kind with h2|h2
 ·rw[h1.file h2]at hm;cases hm
 ·exact h2
theorem VO {T:aG} {d k:Int} {nm:Nm} {x:bW} (hx:aj d T=some x) (hn:aj nm x.names=some k):((d,nm,k):iT)∈aT T:=by
 unfold aT
 refine List.mem_flatMap.2 ⟨(d,x),bP hx,?_⟩
 unfold jQ
 exact List.mem_map.2 ⟨(nm,k),bP hn,rfl⟩
theorem xW {T:aG} {dep:Int→Nat} (hT:dX T) (hd:dQ T dep) {e:iT} (he:e∈aT T):Ht T dep e.1<Ht T dep e.2.2:=by
 obtain⟨x,hx,hk,hn⟩:=PI hT he
 obtain⟨h1,h2⟩:=hd.up _ _ hx _ (bP hn)
 have hk1:bO T e.1=2:=(bQ hx).trans hk
 unfold Ht
 rw[if_pos hk1]
 by_cases hk2:bO T e.2.2=2
 ·rw[if_pos hk2,h2 hk2];omega
 ·rw[if_neg hk2];omega
theorem PK (T:aG) (dep:Int→Nat) (id:Int):Ht T dep id<10:=by
 unfold Ht
 split<;>omega
theorem DN {T:aG} {u:List Nm} {m:Nm} {id:Int}:aH T 0 (u++[m])=(id,0)↔∃d x,aH T 0 u=(d,0)∧aj d T=some x∧x.kind=2∧aj m x.names=some id:=by
 rw[gX]
 constructor
 ·intro h
  by_cases h2:(aH T 0 u).2=0
  ·rw[if_pos h2]at h
   obtain⟨x,k,hx,hk,hn,hr⟩:=jy h
   have:k=id:=congrArg Prod.fst hr
   subst this
   exact⟨_,x,Prod.ext rfl h2,hx,hk,hn⟩
  ·rw[if_neg h2]at h
   rw[h]at h2
   exact absurd rfl h2
 ·rintro ⟨d,x,h1,hx,hk,hn⟩
  rw[h1]
  simp[aH,hx,hk,hn]
theorem xX {T:aG} {dep:Int→Nat} (hT:dX T) (hd:dQ T dep):∀(n:Nat) (id:Int) (q:List Nm),Ht T dep id<n→(q∈bI T n id↔aH T 0 q=(id,0))
 |0,_,_,h=>by omega
 |n+1,id,q,h=>by
  unfold bI
  by_cases h0:id=0
  ·subst h0
   rw[if_pos rfl,List.mem_singleton]
   constructor
   ·rintro rfl;rfl
   ·intro hq
    exact Decidable.byContradiction fun hne=>xO hT q 0 hq hne
  ·rw[if_neg h0,(lX _ _).mem_iff,List.nil_append,List.mem_flatMap]
   constructor
   ·rintro ⟨e,he,hq⟩
    unfold yY at hq
    split at hq
    ·rename_i hid
     obtain⟨u,hu,rfl⟩:=List.mem_map.1 hq
     obtain⟨x,hx,hk,hn⟩:=PI hT he
     have hl:=xW hT hd he
     rw[hid]at hl hn
     exact DN.2 ⟨e.1,x,(xX hT hd n e.1 u (by omega)).1 hu,hx,hk,hn⟩
    ·cases hq
   ·intro hq
    have hne:q≠[]:=fun e=>by
     rw[e]at hq
     exact h0 (congrArg Prod.fst hq).symm
    have hs:=List.dropLast_concat_getLast hne
    rw[←hs]at hq
    obtain⟨d,x,h1,hx,hk,hn⟩:=DN.1 hq
    have he:=VO hx hn
    have hl:=xW hT hd he
    refine⟨_,he,?_⟩
    unfold yY
    rw[if_pos rfl]
    exact List.mem_map.2 ⟨_,(xX hT hd n d _ (by simp only at hl;omega)).2 h1,hs⟩
theorem Sj {T:aG} (hT:dX T):(aT T).Pairwise fun a b=>¬(a.1=b.1∧a.2.1=b.2.1):=by
 rw[List.pairwise_iff_getElem]
 intro i j hi hj hij he
 have h:=List.pairwise_iff_getElem.1 (zR hT.sorted (fun q hq=>(hT.each _ _ (bf dU hT.sorted hq)).sorted) (aT T)[i].1 (aT T)[i].2.1) i j hi hj hij
 exact h ⟨by simp[gP],by simp[gP,he.1,he.2]⟩
theorem Bp {T:aG} {dep:Int→Nat} (hT:dX T) (hd:dQ T dep):∀(n:Nat) (id:Int),Ht T dep id<n→(bI T n id).Nodup
 |0,_,h=>by omega
 |n+1,id,h=>by
  unfold bI
  by_cases h0:id=0
  ·rw[if_pos h0];exact List.pairwise_singleton _ _
  ·rw[if_neg h0,(lX _ _).nodup_iff,List.nil_append]
   unfold List.Nodup
   rw[List.pairwise_flatMap]
   constructor
   ·intro e he
    unfold yY
    split
    ·rename_i hid
     have hl:=xW hT hd he
     rw[hid]at hl
     rw[List.pairwise_map]
     refine(Bp hT hd n e.1 (by omega)).imp fun hne e1=>hne (List.append_cancel_right e1)
    ·exact List.Pairwise.nil
   ·refine(Sj hT).imp_of_mem fun{a b} ha hb hne x hx y hy e1=> ?_
    unfold yY at hx hy
    split at hx
    ·split at hy
     ·rename_i h1 h2
      obtain⟨u,hu,rfl⟩:=List.mem_map.1 hx
      obtain⟨v,hv,rfl⟩:=List.mem_map.1 hy
      obtain⟨e2,e3⟩:=List.append_inj' e1 rfl
      have hla:=xW hT hd ha
      have hlb:=xW hT hd hb
      rw[h1]at hla
      rw[h2]at hlb
      have k1:=(xX hT hd n a.1 u (by omega)).1 hu
      have k2:=(xX hT hd n b.1 v (by omega)).1 hv
      rw[e2,k2]at k1
      exact hne ⟨(congrArg Prod.fst k1).symm,by simpa using e3⟩
     ·cases hy
    ·cases hx
theorem Sk (T:aG) (n:Nat) (id:Int):Weak (bI T n id):=by
 cases n with
 |zero=>exact List.pairwise_singleton _ _
 |succ n=>
  unfold bI
  split
  ·exact List.pairwise_singleton _ _
  ·exact DL _ List.Pairwise.nil
theorem KC {T:aG} (hO:fG T) (id:Int):(bI T 10 id).Perm (pV T id):=by
 have hO2:=hO
 obtain⟨hT,dep,hd⟩:=hO2
 have hl:=PK T dep id
 refine(List.perm_ext_iff_of_nodup (Bp hT hd 10 id hl) (mD hT 8 0 [])).2 fun q=> ?_
 rw[xX hT hd 10 id q hl]
 exact(oJ hO).symm
theorem PL {a b:List Nm} (ha:a.all dw=true) (ha8:a.length≤8) (hb:b.all dw=true) (uR:b.length≤8) (h:bK a=bK b):a=b:=by
 have h1:=uL a ha ha8
 rw[h,uL b hb uR]at h1
 exact(congrArg Prod.fst h1).symm
theorem xY {T:aG} (hO:fG T) {id:Int} {q:List Nm} (h:q∈pV T id):q.all dw=true∧q.length≤8:=by
 obtain⟨h1,h2,_,_⟩:=DF hO ((oJ hO).1 h)
 exact⟨List.all_eq_true.2 h2,h1⟩
theorem Sl {l:List (List Nm)} (h:KA l):Weak l:=h.imp fun{a b} h1=>by
 unfold kJ
 rw[TG]
 exact h1
theorem Sm {T:aG} (hO:fG T) {id:Int} {l:List (List Nm)} (hp:l.Perm (pV T id)) (hw:Weak l):l=bI T 10 id:=by
 refine List.Perm.eq_of_pairwise (le:=fun a b=>kJ b a=false) (fun a b ha hb h1 h2=> ?_) hw (Sk T 10 id) (hp.trans (KC hO id).symm)
 obtain⟨ga,la⟩:=xY hO (hp.mem_iff.1 ha)
 obtain⟨gb,lb⟩:=xY hO ((KC hO id).mem_iff.1 hb)
 refine PL ga la gb lb (Decidable.byContradiction fun hne=> ?_)
 rcases l8.tot _ _ hne with h3|h3
 ·have h4:kJ a b=true:=h3
  rw[h2]at h4;cases h4
 ·have h4:kJ b a=true:=h3
  rw[h1]at h4;cases h4
end Go.Proofs.YtmabllemjkcobaaGreat
