/- (*tree.Tree).Save. All paths of a node, plainly. All paths, whatever the order of a directory's names. permafrostlaw11.played. Literal slices of texts. permafrostlaw11.known. Rows whose elements have more than one cell: append. -/
import Derived.Test.YtmabllemjkcobaaGreatM35
import Derived.Test.YtmabllemjkcobaaGreatM17
import Derived.Test.YtmabllemjkcobaaGreatM33
import Derived.Test.YtmabllemjkcobaaGreatM14
import Derived.Test.YtmabllemjkcobaaGreatM12
namespace Go.Proofs.YtmabllemjkcobaaGreat
open Go.ChangeShapes Go.WideShapes Go.ChangeAt Go.RowKit
set_option linter.unusedVariables false
set_option linter.unusedSimpArgs false
section
variable {g:Nat→Own} {D:Nat→Prop} {p mb:Nat} {ib nb:Int→Nat} {T:aG}
theorem jX.other {B x:Nat} {w w':World} {v v':Value} {bs:List UInt8} (h:jX B w x v bs v' w') {b:Nat} (hb:b<w.heap.size) (hx:b≠x) (hv:v.ownBlock≠some b):w'.heap[b]? =w.heap[b]? ∧v'.ownBlock≠some b:=
 ⟨h.2.1.block b hb fun hf=>hf.elim hx hv,fun he=>by
  rcases h.2.2 b he with h1|h1
  ·exact hv h1
  ·omega⟩
theorem F9 (w:World) (l:List UInt8) (hl:l.length≤1000):∃cap w1,(convert 9 39 (.string (strOf l))).run Tryz.prog w= .ok (.slice (some ⟨w.heap.size,0,none⟩) l.length cap) w1∧Below w.heap.size w w1∧w.heap.size<w1.heap.size∧l.length≤cap∧aC (fun b=>b=w.heap.size) w1 (some ⟨w.heap.size,0,none⟩) l.length (l.map bv):=by
 have h:=Lib.run_convert_string_bytes (P:=Tryz.prog) w 9 39 5 (strOf l) Tryz.underlying9 Tryz.underlying39 Tryz.underlying5
 rw[fV]at h
 refine⟨_,_,h,⟨rfl,rfl,rfl,by rw[Lib.bytesWorld_size];omega,fun k hk=>Lib.bytesWorld_at_old w _ _ k hk⟩,by rw[Lib.bytesWorld_size];omega,grownCap_ge _ _ _ _,⟨by simp,by unfold maxLen;omega,fun h0=>⟨w.heap.size,0,rfl,rfl,by rw[Lib.bytesWorld_size];omega,fun i hi=> ?_⟩⟩⟩
 rw[Nat.zero_add,Lib.bytesWorld_cell w _ _ i (by rw[fV];exact hi)]
 have e1:(strOf l).data.toList=l:=rfl
 rw[e1,List.getElem?_map,List.getElem?_eq_getElem hi,List.getD_eq_getElem?_getD,List.getElem?_eq_getElem hi]
 rfl
structure XF (w:World) (D:Nat→Prop) (p mb:Nat) (ib nb:Nat) (k:Int) (x:bW) (T':List (Int×Value)) (a:Option Addr) (c:Nat):Prop where
 c0:w.cell? ⟨ib,0,none⟩=some (.int .i64 k)
 c1:w.cell? ⟨ib,1,none⟩=some (.int .i64 x.kind)
 c2:w.cell? ⟨ib,2,none⟩=some (.int .i64 x.links)
 c3:w.cell? ⟨ib,3,none⟩=some (.int .i64 x.b.length)
 c4:w.cell? ⟨ib,4,none⟩=some (.int .u64 x.aQ)
 c5:w.cell? ⟨ib,5,none⟩=some (.bool x.closed)
 c6:w.cell? ⟨ib,6,none⟩=some (.slice a x.b.length c)
 c7:w.cell? ⟨ib,7,none⟩=some (gF x nb)
 row:aC D w a x.b.length (x.b.map bv)
 head:w.cell? ⟨p,0,none⟩=some (.map (some mb))
 map:MapAt bC w mb T'
 names:x.kind=2→MapAt dN w nb (cO x)
theorem I5 {w:World} (h:aO g D w p mb ib nb T) {k:Int} {x:bW} (hx:aj k T=some x):∃a c,x.b.length≤c∧∀w',Below w.heap.size w w'→XF w' D p mb (ib k) (nb k) k x (T.map fun q=>(q.1,ptr (ib q.1))) a c:=by
 obtain⟨⟨a,c,hblk,hcap,hrow⟩,_⟩:=h.item k x hx
 have hiw:=(Array.getElem?_eq_some_iff.1 hblk).1
 refine⟨a,c,hcap.1,fun w' hb=> ?_⟩
 have h':=h.below hb (Nat.le_refl _)
 obtain⟨c0,c1,c2,c3,c4,c5,c7,_⟩:=(h'.item k x hx).cell
 refine⟨c0,c1,c2,c3,c4,c5,?_,c7,hrow.below hb (Nat.le_refl _),h'.cell.1,h'.map,fun hk=>(h'.item k x hx).names hk⟩
 rw[hb.cell (p:=⟨ib k,6,none⟩) hiw]
 simp only[World.cell?,hblk]
 rfl
set_option maxRecDepth 100000 in
set_option maxHeartbeats 8000000 in
theorem Kg (w:World) (h:aO g D w p mb ib nb T) (hT:dX T):Calls Tryz.prog 32 #[ptr p] w (zG w (iO T)):=by
 have Es:=Lib.hid h
 have HT:=Lib.hid hT
 have hlen:=hT.len
 obtain⟨N,hN⟩:∃N,N=T.length:=⟨_,rfl⟩
 have rC:=Lib.hid hN
 rw[←hN]at hlen
 clear h hT hN
 go_enter Tryz.func32,Tryz.ntmps32
 go_wp2_with fail
 (with_reducible refine(uH w).mono ?_)
 rintro e w1 ⟨rfl,hW1,hb1⟩
 have HW1:=Lib.hid hW1
 have HB1:=Lib.hid hb1
 have h1:=Es.out.below hb1 (Nat.le_refl _)
 have hs1:=hb1.size
 obtain⟨hc0,hpw,hmw⟩:=h1.cell
 have Ga:=Lib.hid h1.map
 have mQ:=Lib.hid (lM hW1 (N:Int) (by omega) (by omega) (by simp))
 clear h1 hW1 hb1
 go_wp2_with (at_len;refine iJ bC rfl _ 101 99 rfl Tryz.underlying101 rfl Ga.out ?_;rw[List.length_map,←rC.out])
 (with_reducible refine mQ.out.mono ?_)
 rintro e w2 ⟨rfl,v2,hm2⟩
 have HW2:=Lib.hid hm2.1
 have HB2:=Lib.hid (HB1.out.trans (hm2.low HW1.out))
 have HID:=Lib.hid (Q_ w2 (Es.out.below HB2.out (Nat.le_refl _)) (by rw[←rC.out];omega))
 clear hm2 mQ hc0 hpw hmw Ga HB1
 go_wp2_with fail
 (with_reducible refine HID.out.mono ?_)
 rintro e w3 ⟨a3,c3,rfl,hc3,hr3,hb3⟩
 have hil:(Ap T).length=N:=by unfold Ap;rw[List.length_map,rC.out]
 rw[hil]at hc3 hr3⊢
 have HW3:=Lib.hid (HW2.out.below hb3)
 have HB3:=Lib.hid (HB2.out.trans (hb3.mono HB2.out.size))
 have HR3:=Lib.hid hr3
 have XG:Hid (∀b,w2.heap.size≤b→b≠w.heap.size∧v2.ownBlock≠some b):=fun b hb=>⟨by have:=HW2.out.lt;omega,fun he=>by have:=mU HW2.out.own b he;omega⟩
 clear hb3 hr3 HID HW2
 go_wp2_with fail
 go_loopw [22] (fun iv wr=>∃(i:Nat) (v':Value),i≤N∧iv= .int .i64 i∧jX w.heap.size w3 w.heap.size v2 (gU (N:Int) 2++(T.take i).flatMap fun q=>jY q.1 q.2) v' wr) (fun iv _=>N-(intOf iv).toNat)
 case atStart=>exact⟨0,v2,by omega,rfl,by simpa using jX.refl HW3.out⟩
 case round=>
  obtain⟨i,v',hi,rfl,hm⟩:=hrel
  have HM:=Lib.hid hm
  have Qa:=Lib.hid (HB3.out.trans (hm.low HW3.out))
  clear hm
  by_cases hin:i<N
  ·have hd1:decide ((i:Int)<(N:Int))=true:=by simpa using hin
   obtain⟨e,he⟩:∃e,T[i]? =some e:=⟨_,List.getElem?_eq_getElem (by have:=rC.out;omega)⟩
   obtain⟨k,x⟩:=e
   have hmem:(k,x)∈T:=List.mem_of_getElem? he
   have hx:aj k T=some x:=bf dU HT.out.sorted hmem
   obtain⟨ab,cb,hcb,hF⟩:=I5 Es.out hx
   have O1:=Lib.hid (HT.out.each k x hx)
   have lq:=HT.out.ids k x hx
   have hok:bC.ok k:=mh lq.1 (by omega)
   have HG:Hid (aj k (T.map fun q=>(q.1,ptr (ib q.1)))=some (ptr (ib k))):=by rw[dR,hx];rfl
   obtain⟨b3,o3,rfl,hS3,hb3w,hcc⟩:=HR3.out.at_ (by omega)
   have hob:=XG.out b3 hS3.1
   have ck:wr.cell? ⟨b3,o3+i,none⟩=some (.int .i64 k):=by
    rw[World.cell?_of_block (w:=w3) (w':=wr) (a:=⟨b3,o3+i,none⟩) (HM.out.other hb3w hob.1 hob.2).1,hcc i hin]
    unfold Ap
    rw[List.getElem?_map,List.getElem?_map,he]
    rfl
   have FR:=hF wr Qa.out
   have HF:=Lib.hid hF
   have HX:=Lib.hid hx
   have HE:=Lib.hid he
   have c0:=FR.c0
   have c1:=FR.c1
   have c2:=FR.c2
   have c3':=FR.c3
   have c4:=FR.c4
   have c5:=FR.c5
   have p0:=FR.head
   have gG:=Lib.hid FR.map
   have hen:=IZ k x O1.out lq.1 lq.2 wr
   unfold jE at hen
   have Ir:=Lib.hid hen
   have hi0:(0:Int)≤(i:Int):=by omega
   have hiN:(i:Int)<(N:Int):=by omega
   clear hx he hmem hF FR hen hcc
   go_wp2_with (first|(at_lookup;refine aW bC rfl _ _ 101 99 rfl Tryz.underlying101 (Tryz.bA _) rfl gG.out k rfl hok ?_;rw[HG.out]))
   (with_reducible refine Ir.out.mono ?_)
   rintro e w4 ⟨ae,ne,ce,rfl,hce,hre,hbe⟩
   have hne:ne=16:=by have h9:=hre.length;rw[List.length_map,kR]at h9;omega
   subst hne
   obtain⟨OG,Rc⟩:∃OG,OG=(gU (N:Int) 2++(T.take i).flatMap fun q=>jY q.1 q.2):=⟨_,rfl⟩
   rw[←Rc]at HM
   have hl0:OG.length≤5800000:=by
    have h9:=qz HT.out (T.take i) fun q hq=>List.mem_of_mem_take hq
    rw[List.length_take]at h9
    rw[Rc,List.length_append,fD]
    omega
   have YO:=Lib.hid Rc
   have hW4:=HM.out.1.below hbe
   have Wo:=Lib.hid hW4
   have eO:=Lib.hid (Qa.out.trans (hbe.mono Qa.out.size))
   have hxr:=HM.out.1.lt
   have K_:=Lib.hid (Ep hW4 ae 16 ce (pR k x) hre (fun b hb=>⟨by omega,fun he=>by have:=mU HM.out.1.own b he;omega⟩) hce (by omega) (by omega))
   have za:=Lib.hid (HM.out.below hbe)
   clear Rc hW4 hre hbe hce Ir ck c0 c1 c2 c3' c4 c5 p0 gG
   go_wp2_with fail
   (with_reducible refine K_.out.mono ?_)
   rintro e w5 ⟨rfl,v5,OC⟩
   have Qd:=Lib.hid (za.out.trans OC)
   have iW:=Lib.hid (eO.out.trans ((OC.low Wo.out).mono (Nat.le_refl _)))
   have F5:=HF.out w5 iW.out
   have c6:=F5.c6
   have hbl:=O1.out.size
   have EG:=Lib.hid Es.out.pY
   have Uq:=Lib.hid (Ep OC.1 ab x.b.length cb x.b F5.row (fun b hb=>⟨by have:=EG.out b hb;omega,fun he=>by have:=gB OC.1.own b he;have:=EG.out b hb;omega⟩) hcb (by simp only[List.length_append,kR,fD];omega) (by omega))
   clear OC F5 K_ Wo eO za
   go_wp2_with fail
   (with_reducible refine Uq.out.mono ?_)
   rintro e w6 ⟨rfl,v6,Ve⟩
   have ou:=Lib.hid (iW.out.trans (Ve.low Qd.out.1))
   have yE:=Lib.hid (Qd.out.trans Ve)
   clear Ve Uq c6 Qd iW
   have vH:=HT.out.few HX.out
   have F6:=HF.out w6 ou.out
   have c7:=F6.c7
   obtain⟨L,hL⟩:∃L,L=x.names.length:=⟨_,rfl⟩
   have Ka:=Lib.hid hL
   have hlb:(OG++(gU ((16:Nat):Int) 2++pR k x)++(gU (x.b.length:Int) 2++x.b)).length≤5900000:=by simp only[List.length_append,kR,fD];omega
   have NZ:=Lib.hid (lM yE.out.1 (L:Int) (by omega) (by omega) (by omega))
   by_cases hk2:x.kind=2
   ·have e2:gF x (nb k)= .map (some (nb k)):=if_pos hk2
    rw[e2]at c7
    have HN:=Lib.hid (F6.names hk2)
    have DZ:=Lib.hid hk2
    clear F6 hk2 e2 hL
    go_wp2_with (at_len;refine iJ dN rfl _ 112 3 rfl Tryz.underlying112 rfl HN.out ?_;rw[cO,List.length_map,←Ka.out])
    (with_reducible refine NZ.out.mono ?_)
    rintro e w7 ⟨rfl,v7,OD⟩
    have yF:=ou.out.trans (OD.low yE.out.1)
    have pO:=Lib.hid yF
    have P8:=Lib.hid (yE.out.trans OD)
    have e2:gF x (nb k)= .map (some (nb k)):=if_pos DZ.out
    have c7:=(HF.out w7 yF).c7
    have hkk:=Tryz.Ed (some (nb k)) w7
    have hso:=sorted_at k x w7 (Es.out.below yF (Nat.le_refl _)) HT.out HX.out
    rw[e2]at c7 hso
    have hll:(x.names.map (·.1)).length=L:=by rw[List.length_map,Ka.out]
    have Vb:=Lib.hid hso
    have Vf:=wall w7 (.cells #[.map (some (nb k))] 112)
    clear OD yF e2 hso NZ yE ou HN
    go_wp2_with (go_at_call 92;refine hkk.mono ?_;rintro e w' ⟨rfl,rfl⟩)
    (with_reducible refine Vb.out.mono ?_)
    rintro e w8 ⟨a8,c8,rfl,hc8,oC,uR⟩
    rw[hll]at oC hc8⊢
    have Vg:Below w7.heap.size w7 w8:=Vf.trans (uR.mono Vf.size)
    have vY:=Lib.hid (pO.out.trans (Vg.mono pO.out.size))
    have Qe:=Lib.hid (P8.out.below Vg)
    have Hq:=Lib.hid oC
    have Wp:Hid (∀b,w7.heap.size<b→b≠w.heap.size∧v7.ownBlock≠some b):=fun b hb=>⟨by have:=P8.out.1.lt;omega,fun he=>by have:=mU P8.out.1.own b he;omega⟩
    have hsz8:(w7.alloc (.cells #[.map (some (nb k))] 112)).heap.size=w7.heap.size+1:=by simp
    clear Vg uR Vf hkk oC Vb pO c7
    go_wp2_with fail
    go_loopw [63] (fun jv wr2=>∃(j:Nat) (vj:Value),j≤L∧jv= .int .i64 j∧jX w.heap.size w8 w.heap.size v7 (OG++(gU ((16:Nat):Int) 2++pR k x)++(gU (x.b.length:Int) 2++x.b)++gU (L:Int) 2++(x.names.take j).flatMap F8) vj wr2) (fun jv _=>L-(intOf jv).toNat)
    case atStart=>exact⟨0,v7,by omega,rfl,by simpa using jX.refl Qe.out.1⟩
    case round=>
     obtain⟨j,vj,hj,rfl,hmj⟩:=hrel
     have Wq:=Lib.hid hmj
     have HBJ:=Lib.hid (vY.out.trans (hmj.low Qe.out.1))
     clear hmj
     by_cases hjL:j<L
     ·have hd2:decide ((j:Int)<(L:Int))=true:=by simpa using hjL
      obtain⟨en,hen⟩:∃en,x.names[j]? =some en:=⟨_,List.getElem?_eq_getElem (by have:=Ka.out;omega)⟩
      obtain⟨nm,id⟩:=en
      have Kh:(nm,id)∈x.names:=List.mem_of_getElem? hen
      have hgn:=bf l8 O1.out.sorted Kh
      have hg16:nm.length≤16:=mq (O1.out.good _ Kh)
      have XH:=HT.out.leads k x HX.out _ Kh
      obtain⟨y,hy⟩:=Option.isSome_iff_exists.1 XH.1
      have hid2:0≤id∧id≤65535:=HT.out.ids _ _ hy
      obtain⟨b8,o8,s,rfl,zl,hb8w,hs,hsl,XI⟩:=Hq.out.cell j hjL
      rw[List.getElem?_map,List.getElem?_map,hen]at hs
      obtain rfl:strOf nm=s:=by simpa using hs
      have SQ:=Wp.out b8 (by omega)
      have cn:wr.cell? ⟨b8,o8+j,none⟩=some (.string (strOf nm)):=(World.cell?_of_block (w:=w8) (w':=wr) (a:=⟨b8,o8+j,none⟩) (Wq.out.other hb8w SQ.1 SQ.2).1).trans XI
      obtain⟨cn9,wc,hrun,hbc,hltc,Tc,hcells⟩:=F9 wr nm (by omega)
      have hrow:aC (fun b=>b=wr.heap.size) wc (some ⟨wr.heap.size,0,none⟩) nm.length (nm.map bv):=hcells
      have hWC:=Wq.out.1.below hbc
      have hxw:=Wq.out.1.lt
      have hlj:(OG++(gU ((16:Nat):Int) 2++pR k x)++(gU (x.b.length:Int) 2++x.b)++gU (L:Int) 2++(x.names.take j).flatMap F8).length≤6000000:=by
       have h9:=Er (x.names.take j) fun e he=>mq (O1.out.good e (List.mem_of_mem_take he))
       rw[List.length_take]at h9
       simp only[List.length_append,kR,fD]at hlb⊢
       omega
      have Wd:=Lib.hid (Ep hWC (some ⟨wr.heap.size,0,none⟩) nm.length cn9 nm hrow (fun b hb=>⟨by rw[hb];omega,fun he=>by have:=mU Wq.out.1.own b he;omega⟩) Tc (by omega) (by omega))
      have Rf:=Lib.hid (Wq.out.below hbc)
      have HBC:=Lib.hid (HBJ.out.trans (hbc.mono HBJ.out.size))
      have DY:=Lib.hid hgn
      have HEN2:=Lib.hid hen
      have hj0:(0:Int)≤(j:Int):=by omega
      have hL4:L≤4096:=by have:=Ka.out;omega
      have ew:IntKind.i64.wrap ((j:Int)+1)=(j:Int)+1:=IntWalk.i64_in _ (by omega)
      have hjL':(j:Int)<(L:Int):=by omega
      clear hen Kh hgn XH hy hs hsl XI hrow hWC hbc hcells
      go_wp2_with fail
      (with_reducible refine Wd.out.mono ?_)
      rintro e IK ⟨rfl,v10,Vh⟩
      have XJ:=Lib.hid (Rf.out.trans Vh)
      have sH:=Lib.hid (HBC.out.trans (Vh.low Rf.out.1))
      have F10:=HF.out IK sH.out
      have c7:=F10.c7
      have e2:gF x (nb k)= .map (some (nb k)):=if_pos DZ.out
      rw[e2]at c7
      have HN10:=Lib.hid (F10.names DZ.out)
      have HG10:Hid (aj nm (cO x)=some (.int .i64 id)):=by rw[eB,DY.out];rfl
      have hnml:nm.length≤maxLen:=by unfold maxLen;omega
      have HS10:=Lib.hid (lM XJ.out.1 id hid2.1 (by omega) (by simp only[List.length_append,kR,fD]at hlj⊢;omega))
      clear Vh F10 e2 hrun
      go_wp2_with (at_lookup;refine aW dN rfl _ _ 112 3 rfl Tryz.underlying112 (Tryz.fq _) rfl HN10.out nm rfl hnml ?_;rw[HG10.out])
      (with_reducible refine HS10.out.mono ?_)
      rintro e Am ⟨rfl,v11,XK⟩
      have Vi:=XJ.out.trans XK
      have hby:OG++(gU ((16:Nat):Int) 2++pR k x)++(gU (x.b.length:Int) 2++x.b)++gU (L:Int) 2++(x.names.take j).flatMap F8++(gU (nm.length:Int) 2++nm)++gU id 2=OG++(gU ((16:Nat):Int) 2++pR k x)++(gU (x.b.length:Int) 2++x.b)++gU (L:Int) 2++(x.names.take (j+1)).flatMap F8:=by
       rw[List.take_add_one,HEN2.out,List.flatMap_append]
       simp[F8,rM,List.append_assoc]
      rw[hby]at Vi
      have HM11:=Lib.hid Vi
      clear Vi hby XK
      go_wp2_with fail
      go_roundw
      case rel=>exact⟨j+1,v11,by omega,by go_num,HM11.out⟩
      case measure=>
       simp only[intOf]
       omega
     ·have hd2:decide ((j:Int)<(L:Int))=false:=by simpa using hjL
      have hfin:OG++(gU ((16:Nat):Int) 2++pR k x)++(gU (x.b.length:Int) 2++x.b)++gU (L:Int) 2++(x.names.take j).flatMap F8=(gU (N:Int) 2++(T.take (i+1)).flatMap fun q=>jY q.1 q.2):=by
       rw[List.take_of_length_le (show x.names.length≤j by have:=Ka.out;omega),YO.out,List.take_add_one,HE.out,List.flatMap_append,Ka.out]
       simp[jY,rM,kR,List.append_assoc]
      have Vj:=Qe.out.trans Wq.out
      rw[hfin]at Vj
      have HMN:=Lib.hid Vj
      clear Vj hfin
      go_wp2_with fail
      go_roundw
      case rel=>exact⟨i+1,vj,by omega,by go_num,HMN.out⟩
      case measure=>simp[intOf];omega
   ·have e2:gF x (nb k)= .map none:=if_neg hk2
    have hnil:x.names=[]:=O1.out.file (O1.out.kind.resolve_right hk2)
    obtain rfl:L=0:=by rw[hL,hnil];rfl
    rw[e2]at c7
    have XL:Hid (Calls Tryz.prog 87 #[ptr w.heap.size, .int .i64 0] w6 (qw w.heap.size w6 w.heap.size v6 (OG++(gU ((16:Nat):Int) 2++pR k x)++(gU (x.b.length:Int) 2++x.b)++gU ((0:Nat):Int) 2))):=NZ.out
    clear F6 hk2 hL
    go_wp2_with fail
    (with_reducible refine XL.out.mono ?_)
    rintro e w7 ⟨rfl,v7,OD⟩
    have yF:=ou.out.trans (OD.low yE.out.1)
    have pO:=Lib.hid yF
    have P8:=Lib.hid (yE.out.trans OD)
    have c7:=(HF.out w7 yF).c7
    have hkk:=Tryz.Ed none w7
    have hso:=sorted_at k x w7 (Es.out.below yF (Nat.le_refl _)) HT.out HX.out
    rw[e2]at c7 hso
    rw[hnil]at hso
    have Vb:=Lib.hid hso
    have Ij:=Lib.hid hnil
    have Vf:=wall w7 (.cells #[.map none] 112)
    clear OD yF e2 hso NZ XL yE ou hnil
    go_wp2_with (go_at_call 92;refine hkk.mono ?_;rintro e w' ⟨rfl,rfl⟩)
    (with_reducible refine Vb.out.mono ?_)
    rintro e w8 ⟨a8,c8,rfl,hc8,oC,uR⟩
    have Qe:=Lib.hid (P8.out.below (Vf.trans (uR.mono Vf.size)))
    simp only[List.map_nil,List.length_nil]at hc8⊢
    clear uR Vf hkk oC Vb pO c7
    have hfin:OG++(gU ((16:Nat):Int) 2++pR k x)++(gU (x.b.length:Int) 2++x.b)++gU ((0:Nat):Int) 2=(gU (N:Int) 2++(T.take (i+1)).flatMap fun q=>jY q.1 q.2):=by
     rw[YO.out,List.take_add_one,HE.out,List.flatMap_append]
     simp[jY,rM,kR,Ij.out,List.append_assoc]
    have Vj:=Qe.out
    rw[hfin]at Vj
    have HMN:=Lib.hid Vj
    clear Vj hfin Qe P8
    go_wp2_with fail
    go_loopw [63] (fun jv wr2=>jv= .int .i64 0∧wr2=w8) (fun jv _=>0)
    case atStart=>exact⟨rfl,rfl⟩
    case round=>
     obtain⟨rfl,rfl⟩:=hrel
     go_wp2_with fail
     go_roundw
     case rel=>exact⟨i+1,v7,by omega,by go_num,HMN.out⟩
     case measure=>simp[intOf];omega
  ·have hd1:decide ((i:Int)<(N:Int))=false:=by simpa using hin
   have hTi:(gU (N:Int) 2++(T.take i).flatMap fun q=>jY q.1 q.2)=iO T:=by
    rw[List.take_of_length_le (by have:=rC.out;omega),rC.out]
    rfl
   have hlT:(iO T).length≤100000000:=by
    have:=qz HT.out T fun q hq=>hq
    unfold iO
    rw[List.length_append,fD]
    have:=rC.out
    omega
   have HD:=Lib.hid (F7 HM.out.1 (by rw[hTi];exact hlT))
   rw[hTi]at HD
   go_wp2_with fail
   (with_reducible refine HD.out.mono ?_)
   rintro e w9 ⟨a9,n9,c9,rfl,YU,XE,oW⟩
   have Ux:=Lib.hid XE
   have BA:=Lib.hid (Qa.out.trans (oW.mono Qa.out.size))
   have hsr:=Qa.out.size
   clear XE oW
   go_wp2_with fail
   go_ret
   exact⟨a9,n9,c9,rfl,YU,Ux.out.mono fun b hb=>⟨by omega,hb.2⟩,BA.out⟩
end
theorem Rh {W w:World} {P:Nat→Prop} {p:Nat} {T:aG} (h:dS W P w p T):Calls Tryz.prog 32 #[ptr p] w (zG w (iO T)):=by
 obtain⟨g,D,mb,ib,nb,hA,hF⟩:=h.at_
 exact Kg w hA h.ok
def gZ (T:aG) (id:Int):Nat→Int→List Nm→List (List Nm)
 |0,a,p=>if a=id then[p]else[]
 |n+1,a,p=>(if a=id then[p]else[])++(aX T a).flatMap fun e=>gZ T id n e.2 (p++[e.1])
theorem qV {T:aG} {id:Int}:∀(n:Nat) (a:Int) (p q:List Nm),q∈gZ T id n a p→∃s,q=p++s
 |0,a,p,q,h=>by
  unfold gZ at h
  split at h
  ·simp only[List.mem_singleton]at h
   exact⟨[],by simp[h]⟩
  ·cases h
 |n+1,a,p,q,h=>by
  unfold gZ at h
  rcases List.mem_append.1 h with h|h
  ·split at h
   ·simp only[List.mem_singleton]at h
    exact⟨[],by simp[h]⟩
   ·cases h
  ·obtain⟨e,_,he⟩:=List.mem_flatMap.1 h
   obtain⟨s,hs⟩:=qV n e.2 _ q he
   exact⟨e.1::s,by rw[hs];simp⟩
theorem t_ {T:aG} (hT:dX T) {id:Int}:∀(n:Nat) (a:Int) (p q:List Nm),(aj a T).isSome=true→vJ T n a→(q∈gZ T id n a p↔∃s,q=p++s∧aH T a s=(id,0))
 |0,a,p,q,ha,hs=>by
  unfold gZ
  constructor
  ·intro h
   split at h
   ·rename_i he
    simp only[List.mem_singleton]at h
    exact⟨[],by simp[h],by simp[aH,he]⟩
   ·cases h
  ·rintro ⟨s,rfl,hl⟩
   cases s with
   |nil=>
    have:a=id:=congrArg Prod.fst hl
    rw[if_pos this]
    simp
   |cons m r=>
    obtain⟨x,k,hx,_,hn,_⟩:=jy hl
    have h1:aX T a=[]:=hs
    rw[dK hx]at h1
    rw[h1]at hn
    cases hn
 |n+1,a,p,q,ha,hs=>by
  unfold gZ
  rw[List.mem_append,List.mem_flatMap]
  constructor
  ·rintro (h|⟨e,he,h⟩)
   ·split at h
    ·rename_i he
     simp only[List.mem_singleton]at h
     exact⟨[],by simp[h],by simp[aH,he]⟩
    ·cases h
   ·obtain⟨x,hx,hm⟩:=oo he
    obtain⟨s,h1,h2⟩:=(t_ hT n e.2 _ q (hT.leads a x hx e hm).1 (hs e he)).1 h
    refine⟨e.1::s,by rw[h1];simp,?_⟩
    unfold aH
    rw[hx]
    simp only
    rw[if_pos (lC hT hx hm),bf l8 (hT.each a x hx).sorted hm]
    exact h2
  ·rintro ⟨s,rfl,hl⟩
   cases s with
   |nil=>
    have:a=id:=congrArg Prod.fst hl
    left
    rw[if_pos this]
    simp
   |cons m r=>
    obtain⟨x,k,hx,_,hn,hr⟩:=jy hl
    have he:(m,k)∈aX T a:=by rw[dK hx];exact bP hn
    exact .inr ⟨(m,k),he,(t_ hT n k _ _ (hT.leads a x hx _ (bP hn)).1 (hs _ he)).2 ⟨r,by simp,hr⟩⟩
theorem Et {T:aG} (hT:dX T) (a:Int):(aX T a).Pairwise fun e e'=>e.1≠e'.1:=by
 unfold aX
 cases hx:aj a T with
 |none=>exact List.Pairwise.nil
 |some x=>exact(hT.each a x hx).sorted.apart l8
theorem mD {T:aG} (hT:dX T) {id:Int}:∀(n:Nat) (a:Int) (p:List Nm),(gZ T id n a p).Nodup
 |0,a,p=>by
  unfold gZ
  split<;>simp
 |n+1,a,p=>by
  unfold gZ
  rw[List.nodup_append]
  refine⟨by split<;>simp,?_,fun q hq q' hq'=> ?_⟩
  ·unfold List.Nodup
   rw[List.pairwise_flatMap]
   refine⟨fun e _=>mD hT n e.2 _,(Et hT a).imp fun{e e'} hne q hq q' hq' he=> ?_⟩
   obtain⟨s,h1⟩:=qV n e.2 _ q hq
   obtain⟨s',h2⟩:=qV n e'.2 _ q' hq'
   rw[h1,h2,List.append_assoc,List.append_assoc]at he
   have:=List.append_cancel_left he
   simp only[List.singleton_append,List.cons.injEq]at this
   exact hne this.1
  ·split at hq
   ·simp only[List.mem_singleton]at hq
    subst hq
    obtain⟨e,_,he⟩:=List.mem_flatMap.1 hq'
    obtain⟨s,h2⟩:=qV n e.2 _ q' he
    intro heq
    have:=congrArg List.length (heq.trans h2)
    simp at this
   ·cases hq
theorem Dj {T:aG} {dep:Int→Nat} (hT:dX T) (hd:dQ T dep):∀(n:Nat) (d:Int),dep d≤n→bO T d=2→∃q,aH T 0 q=(d,0)
 |n,d,hn,hk=>by
  by_cases h0:d=0
  ·exact⟨[],by rw[h0];rfl⟩
  ·obtain⟨x,hx,hxk⟩:=gM hk
   have hc:=hT.counts d x hx h0
   rw[((hT.each d x hx).dir hxk).1]at hc
   have hpos:0<gy T d:=by omega
   have:∃q∈T,0<cn d q.2:=by
    unfold gy at hpos
    cases hall:T.all (fun q=>cn d q.2==0)with
    |false=>
     rw[List.all_eq_false]at hall
     obtain⟨q,hq,h1⟩:=hall
     exact⟨q,hq,by simp at h1;omega⟩
    |true=>
     rw[List.all_eq_true]at hall
     have hz:(T.map fun q=>cn d q.2).sum=0:=by
      have:∀l:aG,(∀q∈l,cn d q.2=0)→(l.map fun q=>cn d q.2).sum=0:=by
       intro l
       induction l with
       |nil=>intro _;rfl
       |cons y r ih=>
        intro hh
        rw[List.map_cons,List.sum_cons,hh y (by simp),ih fun q hq=>hh q (by simp[hq])]
      exact this T fun q hq=>by simpa using hall q hq
     omega
   obtain⟨q,hq,hcq⟩:=this
   unfold cn at hcq
   rw[List.countP_pos_iff]at hcq
   obtain⟨e,he,hed⟩:=hcq
   simp only[decide_eq_true_eq]at hed
   have OH:=bf dU hT.sorted hq
   have hup:=(hd.up q.1 q.2 OH e he).2 (by rw[hed];exact hk)
   rw[hed]at hup
   match n,hn with
   |0,hn=>omega
   |n+1,hn=>
    obtain⟨p,hp⟩:=Dj hT hd n q.1 (by omega) ((bQ OH).trans (lC hT OH he))
    refine⟨p++[e.1],?_⟩
    rw[gX,hp,if_pos rfl]
    unfold aH
    rw[OH]
    simp only
    rw[if_pos (lC hT OH he),bf l8 (hT.each _ _ OH).sorted he]
    simp only
    rw[hed]
    rfl
open Classical in
noncomputable def uo (T:aG) (d:Int):List Nm:=if h:∃q,aH T 0 q=(d,0)then h.choose else[]
theorem OI {T:aG} {d:Int} (h:∃q,aH T 0 q=(d,0)):aH T 0 (uo T d)=(d,0):=by
 unfold uo
 rw[dif_pos h]
 exact h.choose_spec
noncomputable def Ki (T:aG) (id:Int):List (List Nm):=T.flatMap fun d=>(d.2.names.filter fun e=>decide (e.2=id)).map fun e=>uo T d.1++[e.1]
theorem Lu (T:aG) (id:Int):(Ki T id).length=gy T id:=by
 unfold Ki gy
 rw[List.length_flatMap]
 congr 1
 apply List.map_congr_left
 intro q _
 rw[List.length_map,cn,List.countP_eq_length_filter]
theorem Ar {α:Type} [DecidableEq α]:∀{l m:List α},l.Nodup→m.Nodup→(∀a,a∈l↔a∈m)→l.Perm m
 |[],m,_,_,h=>by
  have:m=[]:=List.eq_nil_iff_forall_not_mem.2 fun a ha=>by have:=(h a).2 ha;cases this
  rw[this]
 |x::r,m,hl,hm,h=>by
  have hx:x∈m:=(h x).1 (by simp)
  obtain⟨h1,h2⟩:=List.nodup_cons.1 hl
  have hp:=List.perm_cons_erase hx
  refine List.Perm.trans (List.Perm.cons x (Ar h2 (hm.erase x) fun a=> ?_)) hp.symm
  rw[hm.mem_erase_iff]
  constructor
  ·intro ha
   exact⟨fun e=>h1 (e▸ha),(h a).1 (by simp[ha])⟩
  ·rintro ⟨hne,ha⟩
   rcases List.mem_cons.1 ((h a).2 ha)with h3|h3
   ·exact absurd h3 hne
   ·exact h3
theorem yG {T:aG} (hO:fG T) {id:Int} (h0:id≠0):(gZ T id 8 0 []).length=gy T id:=by
 obtain⟨hT,dep,hd⟩:=hO
 have hS:vJ T 8 0:=hd.JZ hT 0
 have Eu:∀d x,aj d T=some x→∀e∈x.names,aH T 0 (uo T d)=(d,0):=fun d x hx e he=>OI (Dj hT hd (dep d) d (Nat.le_refl _) ((bQ hx).trans (lC hT hx he)))
 rw[←Lu]
 refine(Ar (mD hT 8 0 []) ?_ fun q=> ?_).length_eq
 ·unfold Ki List.Nodup
  rw[List.pairwise_flatMap]
  refine⟨fun d P6=> ?_,?_⟩
  ·rw[List.pairwise_map]
   have hs:=(hT.each _ _ (bf dU hT.sorted P6)).sorted.apart l8
   refine(List.Pairwise.filter _ hs).imp fun{e e'} hne he=>hne ?_
   have:=List.append_cancel_left he
   simpa using this
  ·refine(hT.sorted.apart dU).imp_of_mem fun{d d'} P6 hdm' hne q hq q' hq' he=> ?_
   obtain⟨e,he1,rfl⟩:=List.mem_map.1 hq
   obtain⟨e',he2,rfl⟩:=List.mem_map.1 hq'
   have hl:=congrArg List.dropLast he
   rw[List.dropLast_concat,List.dropLast_concat]at hl
   have h1:=Eu d.1 d.2 (bf dU hT.sorted P6) e (List.mem_filter.1 he1).1
   have h2:=Eu d'.1 d'.2 (bf dU hT.sorted hdm') e' (List.mem_filter.1 he2).1
   rw[hl,h2]at h1
   exact hne (congrArg Prod.fst h1).symm
 ·rw[t_ hT 8 0 [] q (eF hT) hS]
  unfold Ki
  rw[List.mem_flatMap]
  constructor
  ·rintro ⟨s,hqs,hl⟩
   rw[List.nil_append]at hqs
   rw[←hqs]at hl
   clear hqs
   have hs:q≠[]:=fun e=>by
    rw[e]at hl
    exact h0 (congrArg Prod.fst hl).symm
   obtain⟨d,x,n,-,hl1,hx,hxk,hn,_,e1⟩:=dB hl hs
   have hmem:=bP hn
   have h2:=vL hT q.dropLast.length q.dropLast (uo T d) d (Nat.le_refl _) hl1 (Eu d x hx _ hmem) ((bQ hx).trans hxk)
   refine⟨(d,x),bP hx,List.mem_map.2 ⟨(n,id),List.mem_filter.2 ⟨hmem,by simp⟩,?_⟩⟩
   rw[e1,h2]
  ·rintro ⟨d,P6,hq⟩
   obtain⟨e,he,rfl⟩:=List.mem_map.1 hq
   obtain⟨hen,SK⟩:=List.mem_filter.1 he
   simp only[decide_eq_true_eq]at SK
   have hx:=bf dU hT.sorted P6
   refine⟨uo T d.1++[e.1],rfl,?_⟩
   rw[gX,Eu d.1 d.2 hx e hen,if_pos rfl]
   unfold aH
   rw[hx]
   simp only
   rw[if_pos (lC hT hx hen),bf l8 (hT.each _ _ hx).sorted hen]
   simp only
   rw[SK]
   rfl
def doneN (left:Nm→Bool) (l:List (Nm×Int)):List (Nm×Int):=l.filter fun e=> !left e.1
theorem qW {left:Nm→Bool} {k:Nm} {j:Int}:∀{l:List (Nm×Int)},l.Pairwise (fun e e'=>e.1≠e'.1)→(k,j)∈l→left k=true→(doneN (fun z=>left z&& !decide (z=k)) l).Perm (doneN left l++[(k,j)])
 |[],_,h,_=>by cases h
 |y::r,hp,h,hl=>by
  obtain⟨h1,h2⟩:=List.pairwise_cons.1 hp
  unfold doneN
  rw[List.filter_cons,List.filter_cons]
  rcases List.mem_cons.1 h with h3|h3
  ·subst h3
   have hr:r.filter (fun e=> !(left e.1&& !decide (e.1=k)))=r.filter fun e=> !left e.1:=by
    apply List.filter_congr
    intro e he
    have hne:e.1≠k:=fun hh=>h1 e he hh.symm
    simp[hne]
   rw[hr]
   simp only[decide_true,Bool.not_true,Bool.and_false,Bool.not_false,if_true,hl]
   rw[if_neg (by decide)]
   exact(List.perm_append_singleton _ _).symm
  ·have hne:y.1≠k:=h1 (k,j) h3
   have ih:=qW h2 h3 hl
   unfold doneN at ih
   have e1:(!(left y.1&& !decide (y.1=k)))= !left y.1:=by simp[hne]
   rw[e1]
   cases left y.1 with
   |true=>simpa using ih
   |false=>simpa using ih
theorem Au {left:Nm→Bool} {l:List (Nm×Int)} (h:∀e∈l,left e.1=true):doneN left l=[]:=by
 unfold doneN
 rw[List.filter_eq_nil_iff]
 intro e he
 simp[h e he]
theorem Dk {left:Nm→Bool} {l:List (Nm×Int)} (h:∀k,left k=false):doneN left l=l:=by
 unfold doneN
 rw[List.filter_eq_self]
 intro e _
 simp[h e.1]
def nI (W w:World) (t r:Nat) (wx:World):Prop:=∃T,FT W (fun x=>x<w.heap.size) wx t r T∧Below w.heap.size w wx
def Vk (W w:World) (e:Ending) (w':World):Prop:=∃t r,e= .returned (.tuple #[ptr t,ptr r])∧nI W w t r w'
theorem OJ {W w w1 w2:World} (hw:Below W.heap.size W w) (h1:Below w.heap.size w w1) (h2:Below W.heap.size W w2) (hk:∀b,b<w.heap.size→w2.heap[b]? =w1.heap[b]?) (hs:w1.heap.size≤w2.heap.size):Below w.heap.size w w2:=
 ⟨h2.os.trans hw.os.symm,h2.tape.trans hw.tape.symm,h2.output.trans hw.output.symm,Nat.le_trans h1.size hs,fun b hb=>(hk b hb).trans (h1.block b hb)⟩
set_option maxRecDepth 100000 in
set_option maxHeartbeats 8000000 in
theorem I6 {W w:World} (a:Option Addr) (len cap:Nat) (hA:FZ W a len) (hB:Below W.heap.size W w):Calls Tryz.prog 47 #[.slice a len cap] w (Vk W w):=by
 have hlm:=hA.1
 unfold maxLen at hlm
 have HA:=Lib.hid hA
 have HBw:=Lib.hid hB
 have hWw:=hB.size
 clear hA hB
 go_enter Tryz.func47,Tryz.ntmps47
 go_wp2_with fail
 (with_reducible refine(Ih W w HBw.out).mono ?_)
 rintro e w1 ⟨t,rfl,hT1,hb1⟩
 have HT1:=Lib.hid hT1
 have HB1:=Lib.hid hb1
 clear hT1 hb1
 go_wp2_with fail
 (with_reducible refine(Ao w1).mono ?_)
 rintro e w2 ⟨r,rfl,hR,hb2⟩
 have hs1:=HB1.out.size
 have hs2:=hb2.size
 have wR:jq W (fun x=>x<w.heap.size) (fun x=>x<w.heap.size∨(w1.heap.size≤x∧x<w2.heap.size)) (fun x=>w1.heap.size≤x∧x<w2.heap.size) w2 t r l9:=by
  refine⟨HT1.out.zJ hb2,hR,fun x hx=>⟨.inr hx,by have:=hx.1;omega⟩,fun x hx=>⟨.inl hx,fun hf=>by have:=hf.1;omega⟩,oM.new⟩
 have HST:Hid (nI W w t r w2):=⟨l9,⟨_,_,wR⟩,HB1.out.trans (hb2.mono hs1)⟩
 clear hR hb2 wR
 go_upto_block 0 with(fail)
 go_cut [6]from 9 to 29 (fun i wx=>nI W w t r wx)
 case first=>
  go_wp2_with fail
  go_loopw [6] (fun i wr=>∃k:Nat,i= .int .i64 k∧k≤40∧nI W w t r wr) (fun i _=>40-(intOf i).toNat)
  case atStart=>exact⟨0,rfl,by omega,HST.out⟩
  case round=>
   obtain⟨k,rfl,hk40,hP⟩:=hrel
   have HP:=Lib.hid hP
   clear hP
   by_cases hlt:k<len
   ·have hd1:decide (k<len)=true:=by simpa using hlt
    by_cases h40:k<40
    ·obtain⟨g,off,rfl,hgw,hAk⟩:=HA.out.2 (by omega)
     obtain⟨x,ba,bn,bc,hx⟩:=hAk k hlt
     obtain⟨T,⟨P,F,wR⟩,hbw⟩:=HP.out
     have hbW:=wR.tree.below
     obtain⟨d0,d1,d2,d3,d4,d5,d6,d7,d8⟩:=hx.cells
     have c0:=(hbW.cell (p:=⟨g,off+k*9,none⟩) hgw).trans d0
     have c1:=(hbW.cell (p:=⟨g,off+k*9+1,none⟩) hgw).trans d1
     have c2:=(hbW.cell (p:=⟨g,off+k*9+2,none⟩) hgw).trans d2
     have c3:=(hbW.cell (p:=⟨g,off+k*9+3,none⟩) hgw).trans d3
     have c4:=(hbW.cell (p:=⟨g,off+k*9+4,none⟩) hgw).trans d4
     have c5:=(hbW.cell (p:=⟨g,off+k*9+5,none⟩) hgw).trans d5
     have c6:=(hbW.cell (p:=⟨g,off+k*9+6,none⟩) hgw).trans d6
     have c7:=(hbW.cell (p:=⟨g,off+k*9+7,none⟩) hgw).trans d7
     have c8:=(hbW.cell (p:=⟨g,off+k*9+8,none⟩) hgw).trans d8
     have Lv:=Lib.hid (FV x ba bn bc wR hx.ok (hx.row.below hbW (Nat.le_refl _)) hx.cap hx.reach)
     have XM:=Lib.hid hbw
     unfold oV at Lv
     have i0:(0:Int)≤(k:Int):=by omega
     have i1:(k:Int)<(len:Int):=by omega
     have i2:(k:Int)<40:=by omega
     have hd2:decide ((k:Int)<40)=true:=by simpa using i2
     clear hAk hx wR hbW d0 d1 d2 d3 d4 d5 d6 d7 d8 hbw
     go_wp2_with fail
     (with_reducible refine Lv.out.mono ?_)
     rintro e w3 ⟨rfl,T',XO,hkq,hsz,OL⟩
     have Ri:Hid (nI W w t r w3):=⟨T',XO,OJ HBw.out XM.out OL hkq hsz⟩
     clear XO hkq OL
     go_wp2_with fail
     go_roundw
     case rel=>exact⟨k+1,by go_num,by omega,Ri.out⟩
     case measure=>simp[intOf];omega
    ·have hd2:decide ((k:Int)<40)=false:=by simp;omega
     go_wp2_with fail
     go_meet
     exact HP.out
   ·have hd1:decide (k<len)=false:=by simpa using hlt
    go_wp2_with fail
    go_meet
    exact HP.out
 case rest=>
  go_wp2_with fail
  go_ret2
  exact⟨t,r,rfl,hcut⟩
theorem wm {w:World} {vs:List Value} {ls:List Nm} {n:Nat} (t:TypeId) (h:vs=(ls.map strOf).map Value.string) (hn:vs.length=n) (hm:n≤1000) (hs:∀l∈ls,l.length≤1000):aK (fun b=>b=w.heap.size) (w.alloc (.cells vs.toArray t)) (some ⟨w.heap.size,0,none⟩) n (ls.map strOf):=by
 subst hn
 refine⟨?_,fun s hs'=> ?_⟩
 ·rw[←h]
  exact ni vs t (by unfold maxLen;omega)
 ·obtain⟨l,hl,rfl⟩:=List.mem_map.1 hs'
  rw[fV]
  have:=hs l hl
  unfold maxLen;omega
def kn1:aG:=(dP l9 [[97]] 2).2
def kn2:aG:=(dP kn1 [[97],[98]] 1).2
def XP:aG:=(eD kn2 [[97],[98]] [[99]]).2
theorem Vl:(dP l9 [[97]] 2).1=(1,0):=by kernel_rfl
theorem Vm:(dP kn1 [[97],[98]] 1).1=(2,0):=by kernel_rfl
theorem Vn:(eD kn2 [[97],[98]] [[99]]).1=0:=by kernel_rfl
theorem OM:jf XP 2= .agg #[.int .i64 2, .int .i64 1, .int .i64 2, .int .i64 0, .int .u64 0, .bool false]:=by kernel_rfl
theorem OO:(aj 2 XP).isSome=true:=by kernel_rfl
theorem Rj:XP.length=3:=by kernel_rfl
set_option maxRecDepth 100000 in
set_option maxHeartbeats 4000000 in
theorem sJ (w:World):Calls Tryz.prog 36 #[] w fun e w'=>e= .returned (.bool true)∧Below w.heap.size w w':=by
 go_enter Tryz.func36,Tryz.ntmps36
 go_wp2_with fail
 (with_reducible refine(Ih w w (Below.refl _ _)).mono ?_)
 rintro e w1 ⟨p,rfl,hT1,hb1⟩
 have Ga:=Lib.hid (D6 (hT1.grow (wall w1 (.cells #[.string ⟨#[97]⟩] 9))) (some ⟨w1.heap.size,0,none⟩) 1 1 [[97]] 2 (wm (w:=w1) (vs:=[.string ⟨#[97]⟩]) 9 rfl rfl (by simp) (by simp)) (Nat.le_refl _) (by omega))
 rw[Vl]at Ga
 clear hT1 hb1
 go_wp2_with fail
 (with_reducible refine Ga.out.mono ?_)
 rintro e w2 ⟨rfl,Qr,hK2⟩
 have D5:=Lib.hid (D6 (T:=kn1) (Qr.grow (wall w2 (.cells #[.string ⟨#[97]⟩, .string ⟨#[98]⟩] 9))) (some ⟨w2.heap.size,0,none⟩) 2 2 [[97],[98]] 1 (wm (w:=w2) (vs:=[.string ⟨#[97]⟩, .string ⟨#[98]⟩]) 9 rfl rfl (by simp) (by simp)) (Nat.le_refl _) (by omega))
 rw[Vm]at D5
 clear Qr hK2 Ga
 go_wp2_with fail
 (with_reducible refine D5.out.mono ?_)
 rintro e w3 ⟨rfl,SI,hK3⟩
 have Ii:=Lib.hid (JV (T:=kn2) (SI.grow ((wall w3 (.cells #[.string ⟨#[97]⟩, .string ⟨#[98]⟩] 9)).alloc (by simp) (.cells #[.string ⟨#[99]⟩] 9))) (some ⟨w3.heap.size,0,none⟩) 2 2 [[97],[98]] (some ⟨w3.heap.size+1,0,none⟩) 1 1 [[99]]
  ((wm (w:=w3) (vs:=[.string ⟨#[97]⟩, .string ⟨#[98]⟩]) 9 rfl rfl (by simp) (by simp)).below (wall _ _) (Nat.le_refl _))
  (by
   have:=wm (w:=w3.alloc (.cells #[.string ⟨#[97]⟩, .string ⟨#[98]⟩] 9)) (vs:=[.string ⟨#[99]⟩]) (ls:=[[99]]) 9 rfl rfl (by simp) (by simp)
   rw[World.size_alloc]at this
   exact this) (Nat.le_refl _) (by omega))
 rw[Vn]at Ii
 clear SI hK3 D5
 go_wp2_with fail
 (with_reducible refine Ii.out.mono ?_)
 rintro e w4 ⟨rfl,rY,hK4⟩
 have HN:=Lib.hid (JW (T:=XP) rY 2 (by rfl))
 rw[OM,OO]at HN
 have u6:=Lib.hid rY
 clear rY hK4 Ii
 go_wp2_with fail
 (with_reducible refine HN.out.mono ?_)
 rintro e w5 ⟨rfl,hb5⟩
 have HC:=Lib.hid (fun w6 (hb:Below w4.heap.size w4 w6)=>Fb (T:=XP) (u6.out.grow hb))
 rw[Rj]at HC
 have iW:=Lib.hid hb5
 clear hb5 HN
 go_wp2_with fail
 (with_reducible refine(HC.out _ ?_).mono ?_)
 ·exact iW.out.trans ((wall _ _).mono iW.out.size)
 rintro e w6 ⟨rfl,rfl⟩
 go_wp2_with fail
 go_ret
 exact⟨rfl,u6.out.below.trans ((iW.out.trans ((wall _ _).mono iW.out.size)).mono u6.out.below.size)⟩
end Go.Proofs.YtmabllemjkcobaaGreat
