/- (*tree.Tree).Save. Trees with marks: what turns them, copies, what is committed. package snap: New, find. -/
import Derived.Test.YtmabllemjkcobaaGreatDoorM19
import Derived.Test.YtmabllemjkcobaaGreatDoorM21
import Derived.Test.YtmabllemjkcobaaGreatDoorM18
import Derived.Test.YtmabllemjkcobaaGreatDoorM22
namespace Go.Proofs.YtmabllemjkcobaaGreatDoor
open Go.ChangeShapes Go.WideShapes Go.ChangeAt Go.RowKit
set_option linter.unusedVariables false
set_option linter.unusedSimpArgs false
section
variable {g:Nat→Own} {D:Nat→Prop} {p mb:Nat} {ib nb:Int→Nat} {T:aK}
theorem jA.other {B x:Nat} {w w':World} {v v':Value} {bs:List UInt8} (h:jA B w x v bs v' w') {b:Nat} (hb:b<w.heap.size) (hx:b≠x) (hv:v.ownBlock≠some b):w'.heap[b]? =w.heap[b]? ∧v'.ownBlock≠some b:=
 ⟨h.2.1.block b hb fun hf=>hf.elim hx hv,fun he=>by
  rcases h.2.2 b he with h1|h1
  ·exact hv h1
  ·omega⟩
theorem Ms (w:World) (l:List UInt8) (hl:l.length≤1000):∃cap w1,(convert 9 26 (.string (strOf l))).run Tryz.prog w= .ok (.slice (some ⟨w.heap.size,0,none⟩) l.length cap) w1∧Below w.heap.size w w1∧w.heap.size<w1.heap.size∧l.length≤cap∧aj (fun b=>b=w.heap.size) w1 (some ⟨w.heap.size,0,none⟩) l.length (l.map bv):=by
 have h:=Lib.run_convert_string_bytes (P:=Tryz.prog) w 9 26 5 (strOf l) Tryz.underlying9 Tryz.underlying26 Tryz.underlying5
 rw[dJ]at h
 refine⟨_,_,h,⟨rfl,rfl,rfl,by rw[Lib.bytesWorld_size];omega,fun k hk=>Lib.bytesWorld_at_old w _ _ k hk⟩,by rw[Lib.bytesWorld_size];omega,grownCap_ge _ _ _ _,⟨by simp,by unfold maxLen;omega,fun h0=>⟨w.heap.size,0,rfl,rfl,by rw[Lib.bytesWorld_size];omega,fun i hi=> ?_⟩⟩⟩
 rw[Nat.zero_add,Lib.bytesWorld_cell w _ _ i (by rw[dJ];exact hi)]
 have e1:(strOf l).data.toList=l:=rfl
 rw[e1,List.getElem?_map,List.getElem?_eq_getElem hi,List.getD_eq_getElem?_getD,List.getElem?_eq_getElem hi]
 rfl
structure V3 (w:World) (D:Nat→Prop) (p mb:Nat) (ib nb:Nat) (k:Int) (x:eB) (T':List (Int×Value)) (a:Option Addr) (c:Nat):Prop where
 c0:w.cell? ⟨ib,0,none⟩=some (.int .i64 k)
 c1:w.cell? ⟨ib,1,none⟩=some (.int .i64 x.kind)
 c2:w.cell? ⟨ib,2,none⟩=some (.int .i64 x.links)
 c3:w.cell? ⟨ib,3,none⟩=some (.int .i64 x.b.length)
 c4:w.cell? ⟨ib,4,none⟩=some (.int .u64 x.au)
 c5:w.cell? ⟨ib,5,none⟩=some (.bool x.closed)
 c6:w.cell? ⟨ib,6,none⟩=some (.slice a x.b.length c)
 c7:w.cell? ⟨ib,7,none⟩=some (dH x nb)
 row:aj D w a x.b.length (x.b.map bv)
 head:w.cell? ⟨p,0,none⟩=some (.map (some mb))
 map:MapAt aP w mb T'
 names:x.kind=2→MapAt bV w nb (bC x)
theorem Fx {w:World} (h:aC g D w p mb ib nb T) {k:Int} {x:eB} (hx:ah k T=some x):∃a c,x.b.length≤c∧∀w',Below w.heap.size w w'→V3 w' D p mb (ib k) (nb k) k x (T.map fun q=>(q.1,ptr (ib q.1))) a c:=by
 obtain⟨⟨a,c,hblk,hcap,hrow⟩,_⟩:=h.item k x hx
 have hiw:=(Array.getElem?_eq_some_iff.1 hblk).1
 refine⟨a,c,hcap.1,fun w' hb=> ?_⟩
 have h':=h.below hb (Nat.le_refl _)
 obtain⟨c0,c1,c2,c3,c4,c5,c7,_⟩:=(h'.item k x hx).cell
 refine⟨c0,c1,c2,c3,c4,c5,?_,c7,hrow.below hb (Nat.le_refl _),h'.cell.1,h'.map,fun hk=>(h'.item k x hx).names hk⟩
 rw[hb.cell (p:=⟨ib k,6,none⟩) hiw]
 simp only[World.cell?,hblk]
 rfl
set_option maxRecDepth 100000 in
set_option maxHeartbeats 8000000 in
theorem Qh (w:World) (h:aC g D w p mb ib nb T) (hT:dI T):Calls Tryz.prog 52 #[ptr p] w (pE w (gD T)):=by
 have zu:=Lib.hid h
 have HT:=Lib.hid hT
 have hlen:=hT.len
 obtain⟨N,hN⟩:∃N,N=T.length:=⟨_,rfl⟩
 have gF:=Lib.hid hN
 rw[←hN]at hlen
 clear h hT hN
 go_enter Tryz.func52,Tryz.ntmps52
 go_wp2_with fail
 (with_reducible refine(lH w).mono ?_)
 rintro e w1 ⟨rfl,hW1,hb1⟩
 have HW1:=Lib.hid hW1
 have HB1:=Lib.hid hb1
 have h1:=zu.out.below hb1 (Nat.le_refl _)
 have hs1:=hb1.size
 obtain⟨hc0,hpw,hmw⟩:=h1.cell
 have jB:=Lib.hid h1.map
 have mU:=Lib.hid (kW hW1 (N:Int) (by omega) (by omega) (by simp))
 clear h1 hW1 hb1
 go_wp2_with (at_len;refine iI aP rfl _ 95 88 rfl Tryz.underlying95 rfl jB.out ?_;rw[List.length_map,←gF.out])
 (with_reducible refine mU.out.mono ?_)
 rintro e w2 ⟨rfl,v2,hm2⟩
 have HW2:=Lib.hid hm2.1
 have HB2:=Lib.hid (HB1.out.trans (hm2.low HW1.out))
 have Af:=Lib.hid (AY w2 (zu.out.below HB2.out (Nat.le_refl _)) (by rw[←gF.out];omega))
 clear hm2 mU hc0 hpw hmw jB HB1
 go_wp2_with fail
 (with_reducible refine Af.out.mono ?_)
 rintro e w3 ⟨a3,c3,rfl,hc3,hr3,hb3⟩
 have hil:(jW T).length=N:=by unfold jW;rw[List.length_map,gF.out]
 rw[hil]at hc3 hr3⊢
 have HW3:=Lib.hid (HW2.out.below hb3)
 have HB3:=Lib.hid (HB2.out.trans (hb3.mono HB2.out.size))
 have HR3:=Lib.hid hr3
 have HOB:Hid (∀b,w2.heap.size≤b→b≠w.heap.size∧v2.ownBlock≠some b):=fun b hb=>⟨by have:=HW2.out.lt;omega,fun he=>by have:=dY HW2.out.own b he;omega⟩
 clear hb3 hr3 Af HW2
 go_wp2_with fail
 go_loopw [22] (fun iv wr=>∃(i:Nat) (v':Value),i≤N∧iv= .int .i64 i∧jA w.heap.size w3 w.heap.size v2 (fF (N:Int) 2++(T.take i).flatMap fun q=>kR q.1 q.2) v' wr) (fun iv _=>N-(intOf iv).toNat)
 case atStart=>exact⟨0,v2,by omega,rfl,by simpa using jA.refl HW3.out⟩
 case round=>
  obtain⟨i,v',hi,rfl,hm⟩:=hrel
  have HM:=Lib.hid hm
  have Dt:=Lib.hid (HB3.out.trans (hm.low HW3.out))
  clear hm
  by_cases hin:i<N
  ·have hd1:decide ((i:Int)<(N:Int))=true:=by simpa using hin
   obtain⟨e,he⟩:∃e,T[i]? =some e:=⟨_,List.getElem?_eq_getElem (by have:=gF.out;omega)⟩
   obtain⟨k,x⟩:=e
   have hmem:(k,x)∈T:=List.mem_of_getElem? he
   have hx:ah k T=some x:=aY dQ HT.out.sorted hmem
   obtain⟨ab,cb,hcb,hF⟩:=Fx zu.out hx
   have O1:=Lib.hid (HT.out.each k x hx)
   have lS:=HT.out.ids k x hx
   have hok:aP.ok k:=gB lS.1 (by omega)
   have HG:Hid (ah k (T.map fun q=>(q.1,ptr (ib q.1)))=some (ptr (ib k))):=by rw[bZ,hx];rfl
   obtain⟨b3,o3,rfl,EA,Zq,hcc⟩:=HR3.out.at_ (by omega)
   have TF:=HOB.out b3 EA.1
   have ck:wr.cell? ⟨b3,o3+i,none⟩=some (.int .i64 k):=by
    rw[World.cell?_of_block (w:=w3) (w':=wr) (a:=⟨b3,o3+i,none⟩) (HM.out.other Zq TF.1 TF.2).1,hcc i hin]
    unfold jW
    rw[List.getElem?_map,List.getElem?_map,he]
    rfl
   have FR:=hF wr Dt.out
   have HF:=Lib.hid hF
   have HX:=Lib.hid hx
   have HE:=Lib.hid he
   have c0:=FR.c0
   have c1:=FR.c1
   have c2:=FR.c2
   have c3':=FR.c3
   have c4:=FR.c4
   have c5:=FR.c5
   have p0:=FR.head
   have fU:=Lib.hid FR.map
   have hen:=E8 k x O1.out lS.1 lS.2 wr
   unfold qK at hen
   have O9:=Lib.hid hen
   have hi0:(0:Int)≤(i:Int):=by omega
   have hiN:(i:Int)<(N:Int):=by omega
   clear hx he hmem hF FR hen hcc
   go_wp2_with (first|(at_lookup;refine aJ aP rfl _ _ 95 88 rfl Tryz.underlying95 (Tryz.aQ _) rfl fU.out k rfl hok ?_;rw[HG.out]))
   (with_reducible refine O9.out.mono ?_)
   rintro e w4 ⟨ae,ne,ce,rfl,hce,hre,hbe⟩
   have hne:ne=16:=by have h9:=hre.length;rw[List.length_map,lU]at h9;omega
   subst hne
   obtain⟨Mt,Qi⟩:∃Mt,Mt=(fF (N:Int) 2++(T.take i).flatMap fun q=>kR q.1 q.2):=⟨_,rfl⟩
   rw[←Qi]at HM
   have hl0:Mt.length≤5800000:=by
    have h9:=oL HT.out (T.take i) fun q hq=>List.mem_of_mem_take hq
    rw[List.length_take]at h9
    rw[Qi,List.length_append,bP]
    omega
   have y9:=Lib.hid Qi
   have Qj:=HM.out.1.below hbe
   have Jj:=Lib.hid Qj
   have iq:=Lib.hid (Dt.out.trans (hbe.mono Dt.out.size))
   have Qk:=HM.out.1.lt
   have HY1:=Lib.hid (tC Qj ae 16 ce (qw k x) hre (fun b hb=>⟨by omega,fun he=>by have:=dY HM.out.1.own b he;omega⟩) hce (by omega) (by omega))
   have lT:=Lib.hid (HM.out.below hbe)
   clear Qi Qj hre hbe hce O9 ck c0 c1 c2 c3' c4 c5 p0 fU
   go_wp2_with fail
   (with_reducible refine HY1.out.mono ?_)
   rintro e w5 ⟨rfl,v5,E9⟩
   have wT:=Lib.hid (lT.out.trans E9)
   have jI:=Lib.hid (iq.out.trans ((E9.low Jj.out).mono (Nat.le_refl _)))
   have F5:=HF.out w5 jI.out
   have c6:=F5.c6
   have hbl:=O1.out.size
   have RY:=Lib.hid zu.out.l5
   have HY2:=Lib.hid (tC E9.1 ab x.b.length cb x.b F5.row (fun b hb=>⟨by have:=RY.out b hb;omega,fun he=>by have:=dG E9.1.own b he;have:=RY.out b hb;omega⟩) hcb (by simp only[List.length_append,lU,bP];omega) (by omega))
   clear E9 F5 HY1 Jj iq lT
   go_wp2_with fail
   (with_reducible refine HY2.out.mono ?_)
   rintro e w6 ⟨rfl,v6,LH⟩
   have rH:=Lib.hid (jI.out.trans (LH.low wT.out.1))
   have Md:=Lib.hid (wT.out.trans LH)
   clear LH HY2 c6 wT jI
   have sW:=HT.out.few HX.out
   have F6:=HF.out w6 rH.out
   have c7:=F6.c7
   obtain⟨L,hL⟩:∃L,L=x.names.length:=⟨_,rfl⟩
   have Ho:=Lib.hid hL
   have hlb:(Mt++(fF ((16:Nat):Int) 2++qw k x)++(fF (x.b.length:Int) 2++x.b)).length≤5900000:=by simp only[List.length_append,lU,bP];omega
   have Me:=Lib.hid (kW Md.out.1 (L:Int) (by omega) (by omega) (by omega))
   by_cases hk2:x.kind=2
   ·have e2:dH x (nb k)= .map (some (nb k)):=if_pos hk2
    rw[e2]at c7
    have HN:=Lib.hid (F6.names hk2)
    have yZ:=Lib.hid hk2
    clear F6 hk2 e2 hL
    go_wp2_with (at_len;refine iI bV rfl _ 92 3 rfl Tryz.underlying92 rfl HN.out ?_;rw[bC,List.length_map,←Ho.out])
    (with_reducible refine Me.out.mono ?_)
    rintro e w7 ⟨rfl,v7,LJ⟩
    have Ql:=rH.out.trans (LJ.low Md.out.1)
    have A_:=Lib.hid Ql
    have Ae:=Lib.hid (Md.out.trans LJ)
    have e2:dH x (nb k)= .map (some (nb k)):=if_pos yZ.out
    have c7:=(HF.out w7 Ql).c7
    have hkk:=Tryz.Bj (some (nb k)) w7
    have hso:=sorted_at k x w7 (zu.out.below Ql (Nat.le_refl _)) HT.out HX.out
    rw[e2]at c7 hso
    have hll:(x.names.map (·.1)).length=L:=by rw[List.length_map,Ho.out]
    have Ti:=Lib.hid hso
    have TG:=wall w7 (.cells #[.map (some (nb k))] 92)
    clear LJ Ql e2 hso Me Md rH HN
    go_wp2_with (go_at_call 122;refine hkk.mono ?_;rintro e w' ⟨rfl,rfl⟩)
    (with_reducible refine Ti.out.mono ?_)
    rintro e w8 ⟨a8,c8,rfl,hc8,uQ,Ag⟩
    rw[hll]at uQ hc8⊢
    have TH:Below w7.heap.size w7 w8:=TG.trans (Ag.mono TG.size)
    have wQ:=Lib.hid (A_.out.trans (TH.mono A_.out.size))
    have EB:=Lib.hid (Ae.out.below TH)
    have Mv:=Lib.hid uQ
    have YF:Hid (∀b,w7.heap.size<b→b≠w.heap.size∧v7.ownBlock≠some b):=fun b hb=>⟨by have:=Ae.out.1.lt;omega,fun he=>by have:=dY Ae.out.1.own b he;omega⟩
    have hsz8:(w7.alloc (.cells #[.map (some (nb k))] 92)).heap.size=w7.heap.size+1:=by simp
    clear TH Ag TG hkk uQ Ti A_ c7
    go_wp2_with fail
    go_loopw [63] (fun jv wr2=>∃(j:Nat) (vj:Value),j≤L∧jv= .int .i64 j∧jA w.heap.size w8 w.heap.size v7 (Mt++(fF ((16:Nat):Int) 2++qw k x)++(fF (x.b.length:Int) 2++x.b)++fF (L:Int) 2++(x.names.take j).flatMap Ez) vj wr2) (fun jv _=>L-(intOf jv).toNat)
    case atStart=>exact⟨0,v7,by omega,rfl,by simpa using jA.refl EB.out.1⟩
    case round=>
     obtain⟨j,vj,hj,rfl,Zr⟩:=hrel
     have Vi:=Lib.hid Zr
     have HBJ:=Lib.hid (wQ.out.trans (Zr.low EB.out.1))
     clear Zr
     by_cases Zt:j<L
     ·have hd2:decide ((j:Int)<(L:Int))=true:=by simpa using Zt
      obtain⟨en,hen⟩:∃en,x.names[j]? =some en:=⟨_,List.getElem?_eq_getElem (by have:=Ho.out;omega)⟩
      obtain⟨nm,id⟩:=en
      have Hq:(nm,id)∈x.names:=List.mem_of_getElem? hen
      have hgn:=aY uD O1.out.sorted Hq
      have hg16:nm.length≤16:=nO (O1.out.good _ Hq)
      have V4:=HT.out.leads k x HX.out _ Hq
      obtain⟨y,hy⟩:=Option.isSome_iff_exists.1 V4.1
      have Zu:0≤id∧id≤65535:=HT.out.ids _ _ hy
      obtain⟨b8,o8,s,rfl,TI,Zv,hs,hsl,V5⟩:=Mv.out.cell j Zt
      rw[List.getElem?_map,List.getElem?_map,hen]at hs
      obtain rfl:strOf nm=s:=by simpa using hs
      have YG:=YF.out b8 (by omega)
      have cn:wr.cell? ⟨b8,o8+j,none⟩=some (.string (strOf nm)):=(World.cell?_of_block (w:=w8) (w':=wr) (a:=⟨b8,o8+j,none⟩) (Vi.out.other Zv YG.1 YG.2).1).trans V5
      obtain⟨cn9,wc,hrun,hbc,hltc,V6,hcells⟩:=Ms wr nm (by omega)
      have hrow:aj (fun b=>b=wr.heap.size) wc (some ⟨wr.heap.size,0,none⟩) nm.length (nm.map bv):=hcells
      have hWC:=Vi.out.1.below hbc
      have hxw:=Vi.out.1.lt
      have hlj:(Mt++(fF ((16:Nat):Int) 2++qw k x)++(fF (x.b.length:Int) 2++x.b)++fF (L:Int) 2++(x.names.take j).flatMap Ez).length≤6000000:=by
       have h9:=Bl (x.names.take j) fun e he=>nO (O1.out.good e (List.mem_of_mem_take he))
       rw[List.length_take]at h9
       simp only[List.length_append,lU,bP]at hlb⊢
       omega
      have YC:=Lib.hid (tC hWC (some ⟨wr.heap.size,0,none⟩) nm.length cn9 nm hrow (fun b hb=>⟨by rw[hb];omega,fun he=>by have:=dY Vi.out.1.own b he;omega⟩) V6 (by omega) (by omega))
      have KZ:=Lib.hid (Vi.out.below hbc)
      have HBC:=Lib.hid (HBJ.out.trans (hbc.mono HBJ.out.size))
      have CJ:=Lib.hid hgn
      have Zw:=Lib.hid hen
      have hj0:(0:Int)≤(j:Int):=by omega
      have hL4:L≤4096:=by have:=Ho.out;omega
      have ew:IntKind.i64.wrap ((j:Int)+1)=(j:Int)+1:=IntWalk.i64_in _ (by omega)
      have hjL':(j:Int)<(L:Int):=by omega
      clear hen Hq hgn V4 hy hs hsl V5 hrow hWC hbc hcells
      go_wp2_with fail
      (with_reducible refine YC.out.mono ?_)
      rintro e Cb ⟨rfl,v10,TJ⟩
      have V7:=Lib.hid (KZ.out.trans TJ)
      have Fy:=Lib.hid (HBC.out.trans (TJ.low KZ.out.1))
      have Zx:=HF.out Cb Fy.out
      have c7:=Zx.c7
      have e2:dH x (nb k)= .map (some (nb k)):=if_pos yZ.out
      rw[e2]at c7
      have Zy:=Lib.hid (Zx.names yZ.out)
      have Zz:Hid (ah nm (bC x)=some (.int .i64 id)):=by rw[dK,CJ.out];rfl
      have ZA:nm.length≤maxLen:=by unfold maxLen;omega
      have kZ:=Lib.hid (kW V7.out.1 id Zu.1 (by omega) (by simp only[List.length_append,lU,bP]at hlj⊢;omega))
      clear TJ Zx e2 hrun
      go_wp2_with (at_lookup;refine aJ bV rfl _ _ 92 3 rfl Tryz.underlying92 (Tryz.dU _) rfl Zy.out nm rfl ZA ?_;rw[Zz.out])
      (with_reducible refine kZ.out.mono ?_)
      rintro e ZB ⟨rfl,v11,V8⟩
      have TK:=V7.out.trans V8
      have hby:Mt++(fF ((16:Nat):Int) 2++qw k x)++(fF (x.b.length:Int) 2++x.b)++fF (L:Int) 2++(x.names.take j).flatMap Ez++(fF (nm.length:Int) 2++nm)++fF id 2=Mt++(fF ((16:Nat):Int) 2++qw k x)++(fF (x.b.length:Int) 2++x.b)++fF (L:Int) 2++(x.names.take (j+1)).flatMap Ez:=by
       rw[List.take_add_one,Zw.out,List.flatMap_append]
       simp[Ez,nY,List.append_assoc]
      rw[hby]at TK
      have ZC:=Lib.hid TK
      clear TK hby V8
      go_wp2_with fail
      go_roundw
      case rel=>exact⟨j+1,v11,by omega,by go_num,ZC.out⟩
      case measure=>
       simp only[intOf]
       omega
     ·have hd2:decide ((j:Int)<(L:Int))=false:=by simpa using Zt
      have hfin:Mt++(fF ((16:Nat):Int) 2++qw k x)++(fF (x.b.length:Int) 2++x.b)++fF (L:Int) 2++(x.names.take j).flatMap Ez=(fF (N:Int) 2++(T.take (i+1)).flatMap fun q=>kR q.1 q.2):=by
       rw[List.take_of_length_le (show x.names.length≤j by have:=Ho.out;omega),y9.out,List.take_add_one,HE.out,List.flatMap_append,Ho.out]
       simp[kR,nY,lU,List.append_assoc]
      have TL:=EB.out.trans Vi.out
      rw[hfin]at TL
      have ZE:=Lib.hid TL
      clear TL hfin
      go_wp2_with fail
      go_roundw
      case rel=>exact⟨i+1,vj,by omega,by go_num,ZE.out⟩
      case measure=>simp[intOf];omega
   ·have e2:dH x (nb k)= .map none:=if_neg hk2
    have hnil:x.names=[]:=O1.out.file (O1.out.kind.resolve_right hk2)
    obtain rfl:L=0:=by rw[hL,hnil];rfl
    rw[e2]at c7
    have V9:Hid (Calls Tryz.prog 118 #[ptr w.heap.size, .int .i64 0] w6 (nN w.heap.size w6 w.heap.size v6 (Mt++(fF ((16:Nat):Int) 2++qw k x)++(fF (x.b.length:Int) 2++x.b)++fF ((0:Nat):Int) 2))):=Me.out
    clear F6 hk2 hL
    go_wp2_with fail
    (with_reducible refine V9.out.mono ?_)
    rintro e w7 ⟨rfl,v7,LJ⟩
    have Ql:=rH.out.trans (LJ.low Md.out.1)
    have A_:=Lib.hid Ql
    have Ae:=Lib.hid (Md.out.trans LJ)
    have c7:=(HF.out w7 Ql).c7
    have hkk:=Tryz.Bj none w7
    have hso:=sorted_at k x w7 (zu.out.below Ql (Nat.le_refl _)) HT.out HX.out
    rw[e2]at c7 hso
    rw[hnil]at hso
    have Ti:=Lib.hid hso
    have Tn:=Lib.hid hnil
    have TG:=wall w7 (.cells #[.map none] 92)
    clear LJ Ql e2 hso Me V9 Md rH hnil
    go_wp2_with (go_at_call 122;refine hkk.mono ?_;rintro e w' ⟨rfl,rfl⟩)
    (with_reducible refine Ti.out.mono ?_)
    rintro e w8 ⟨a8,c8,rfl,hc8,uQ,Ag⟩
    have EB:=Lib.hid (Ae.out.below (TG.trans (Ag.mono TG.size)))
    simp only[List.map_nil,List.length_nil]at hc8⊢
    clear Ag TG hkk uQ Ti A_ c7
    have hfin:Mt++(fF ((16:Nat):Int) 2++qw k x)++(fF (x.b.length:Int) 2++x.b)++fF ((0:Nat):Int) 2=(fF (N:Int) 2++(T.take (i+1)).flatMap fun q=>kR q.1 q.2):=by
     rw[y9.out,List.take_add_one,HE.out,List.flatMap_append]
     simp[kR,nY,lU,Tn.out,List.append_assoc]
    have TL:=EB.out
    rw[hfin]at TL
    have ZE:=Lib.hid TL
    clear TL hfin EB Ae
    go_wp2_with fail
    go_loopw [63] (fun jv wr2=>jv= .int .i64 0∧wr2=w8) (fun jv _=>0)
    case atStart=>exact⟨rfl,rfl⟩
    case round=>
     obtain⟨rfl,rfl⟩:=hrel
     go_wp2_with fail
     go_roundw
     case rel=>exact⟨i+1,v7,by omega,by go_num,ZE.out⟩
     case measure=>simp[intOf];omega
  ·have hd1:decide ((i:Int)<(N:Int))=false:=by simpa using hin
   have hTi:(fF (N:Int) 2++(T.take i).flatMap fun q=>kR q.1 q.2)=gD T:=by
    rw[List.take_of_length_le (by have:=gF.out;omega),gF.out]
    rfl
   have hlT:(gD T).length≤100000000:=by
    have:=oL HT.out T fun q hq=>hq
    unfold gD
    rw[List.length_append,bP]
    have:=gF.out
    omega
   have HD:=Lib.hid (tF HM.out.1 (by rw[hTi];exact hlT))
   rw[hTi]at HD
   go_wp2_with fail
   (with_reducible refine HD.out.mono ?_)
   rintro e w9 ⟨a9,n9,c9,rfl,KY,PW,fM⟩
   have zo:=Lib.hid PW
   have qz:=Lib.hid (Dt.out.trans (fM.mono Dt.out.size))
   have hsr:=Dt.out.size
   clear PW fM
   go_wp2_with fail
   go_ret
   exact⟨a9,n9,c9,rfl,KY,zo.out.mono fun b hb=>⟨by omega,hb.2⟩,qz.out⟩
end
section
variable {W w:World} {o:Mark} {i p:Nat} {T:aK}
theorem Qm {S S':Nat→Prop} (h:dN o i w p T) (hM:Marks W o w) (hi:i≠0) (hT:dI T) (a:Option Addr) (n c:Nat) (ls:List Nm) (a':Option Addr) (n' c':Nat) (ls':List Nm) (hS:aO S w a n (ls.map strOf)) (hS':aO S' w a' n' (ls'.map strOf)) (hc':n'≤c') (nD:n'≤1000000):
  Calls Tryz.prog 43 #[ptr p, .slice a n c, .slice a' n' c'] w (fP o i w p (gy T ls ls').2 (.int .i64 (gy T ls ls').1)):=by
 obtain⟨g,D,mb,ib,nb,hA,hg,hD⟩:=h
 exact(PL a n c ls a' n' c' ls' w hA hT hS hS' hc' nD).mono fun e w' ht=>fP.of hM hi hg hD ht
theorem Jv {S:Nat→Prop} (h:dN o i w p T) (hM:Marks W o w) (hi:i≠0) (hT:dI T) (a:Option Addr) (n c:Nat) (ls:List Nm) (hS:aO S w a n (ls.map strOf)) (hc:n≤c) (nD:n≤1000000):
  Calls Tryz.prog 107 #[ptr p, .slice a n c] w (fP o i w p (dP T ls).2 (.int .i64 (dP T ls).1)):=by
 obtain⟨g,D,mb,ib,nb,hA,hg,hD⟩:=h
 exact(Jk a n c ls w hA hT hS hc nD).mono fun e w' ht=>fP.of hM hi hg hD ht
theorem Mw {S:Nat→Prop} (h:dN o i w p T) (hM:Marks W o w) (hi:i≠0) (hT:dI T) (a:Option Addr) (n c:Nat) (ls:List Nm) (hS:aO S w a n (ls.map strOf)) (hc:n≤c) (nD:n≤1000000):
  Calls Tryz.prog 45 #[ptr p, .slice a n c] w (fP o i w p (eT T ls).2 (.int .i64 (eT T ls).1)):=by
 obtain⟨g,D,mb,ib,nb,hA,hg,hD⟩:=h
 exact(LU a n c ls w hA hT hS hc nD).mono fun e w' ht=>fP.of hM hi hg hD ht
theorem Jw {S S':Nat→Prop} (h:dN o i w p T) (hM:Marks W o w) (hi:i≠0) (hO:fC T) (a:Option Addr) (n c:Nat) (ls:List Nm) (a':Option Addr) (n' c':Nat) (ls':List Nm) (hS:aO S w a n (ls.map strOf)) (hS':aO S' w a' n' (ls'.map strOf)) (hc:n≤c) (nD:n≤1000000) (hc':n'≤c') (Tw:n'≤1000000):
  Calls Tryz.prog 46 #[ptr p, .slice a n c, .slice a' n' c'] w (fP o i w p (cu T ls ls').2 (.int .i64 (cu T ls ls').1)):=by
 obtain⟨g,D,mb,ib,nb,hA,hg,hD⟩:=h
 exact(Jt a n c ls a' n' c' ls' w hA hO hS hS' hc nD hc' Tw).mono fun e w' ht=>fP.of hM hi hg hD ht
theorem Qn (h:dN o i w p T) (hM:Marks W o w) (hi:i≠0) (id au:Int) (hid:(Lit.int .i64 id).wf=true) (ht0:0≤au) (ht1:au≤18446744073709551615):
  Calls Tryz.prog 103 #[ptr p, .int .i64 id, .int .u64 au] w (fP o i w p (fE T id au).2 (.int .i64 (fE T id au).1)):=by
 obtain⟨g,D,mb,ib,nb,hA,hg,hD⟩:=h
 exact(Pz id au w hA hid ht0 ht1).mono fun e w' ht=>fP.of hM hi hg hD ht
theorem Qo (h:dN o i w p T) (hM:Marks W o w) (hi:i≠0) (hT:dI T) (id au:Int) (hid:(Lit.int .i64 id).wf=true) (ht0:0≤au) (ht1:au≤18446744073709551615):
  Calls Tryz.prog 112 #[ptr p, .int .i64 id, .int .u64 au] w (fP o i w p (gU T id au).2 (.int .i64 (gU T id au).1)):=by
 obtain⟨g,D,mb,ib,nb,hA,hg,hD⟩:=h
 exact(PD id au w hA hid ht0 ht1 (fun x hx=>(hT.each id x hx).au)).mono fun e w' ht=>fP.of hM hi hg hD ht
theorem Qp (h:dN o i w p T) (hM:Marks W o w) (hi:i≠0) (hT:dI T) (id:Int) (hid:(Lit.int .i64 id).wf=true):
  Calls Tryz.prog 117 #[ptr p, .int .i64 id] w (fP o i w p (fO T id).2 (.int .i64 (fO T id).1)):=by
 obtain⟨g,D,mb,ib,nb,hA,hg,hD⟩:=h
 exact(drop_at id hT w hA hid).mono fun e w' ht=>fP.of hM hi hg hD ht
theorem tQ (h:dN o i w p T) (hT:dI T):Calls Tryz.prog 52 #[ptr p] w (pE w (gD T)):=by
 obtain⟨g,D,mb,ib,nb,hA,hg,hD⟩:=h
 exact Qh w hA hT
theorem TM (h:dN o i w p T) (hT:dI T):Calls Tryz.prog 116 #[ptr p] w (wN w (jW T)):=by
 obtain⟨g,D,mb,ib,nb,hA,hg,hD⟩:=h
 exact AY w hA (by have:=hT.len;omega)
open Classical in
theorem fZ {W w w':World} {o:Mark} (hM:Marks W o w) (j:Nat) (G:Nat→Prop) (hG:∀b,G b→w.heap.size≤b∧b<w'.heap.size) (hb:Below w.heap.size w w'):∃o',Step o (fun i=>i=j) w o' w'∧(∀b,G b→o' b=j)∧(∀b,¬G b→o' b=o b):=by
 obtain⟨o',ho⟩:∃o':Mark,∀b,o' b=if G b then j else o b:=⟨_,fun _=>rfl⟩
 refine⟨o',⟨fun b hb'=> ?_,fun b hb' hn=> ?_,(Keeps.below hb).mono fun x hx hx'=>absurd hx (by omega)⟩,fun b hb'=>by rw[ho,if_pos hb'],fun b hb'=>by rw[ho,if_neg hb']⟩
 ·rw[ho,if_neg (fun h=>by have:=hG b h;omega)]
 ·by_cases h:G b
  ·rw[ho,if_pos h];exact⟨rfl,(hG b h).2⟩
  ·rw[ho,if_neg h]at hn;have:=(hM.new b hn).2;omega
theorem Qq (h:dN o i w p T) (hM:Marks W o w) (hT:dI T) (j:Nat):
  Calls Tryz.prog 58 #[ptr p] w fun e w'=>∃q o',e= .returned (ptr q)∧Step o (fun i=>i=j) w o' w'∧dN o' j w' q T∧Below w.heap.size w w':=by
 obtain⟨g,D,mb,ib,nb,hA,hg,hD⟩:=h
 refine(Hl w hA hT).mono ?_
 rintro e w' ⟨q,g',mq,G5,nb',rfl,hA',hg',hb⟩
 obtain⟨o',hs,h1,h2⟩:=fZ hM j (fun b=>g' b≠ .none) (fun b hb'=>⟨hg' b hb',hA'.low b hb'⟩) hb
 refine⟨q,o',rfl,hs,⟨g',D,mq,G5,nb',hA',fun b hb'=>h1 b hb',fun b hb'=> ?_⟩,hb⟩
 rw[hs.old b (hA.l5 b hb')]
 exact hD b hb'
theorem Mx (h:dN o i w p T) (hM:Marks W o w) (hT:dI T):
  Calls Tryz.prog 58 #[ptr p] w fun e w'=>∃q,e= .returned (ptr q)∧dN o 0 w' q T∧Below w.heap.size w w':=by
 obtain⟨g,D,mb,ib,nb,hA,hg,hD⟩:=h
 refine(Hl w hA hT).mono ?_
 rintro e w' ⟨q,g',mq,G5,nb',rfl,hA',hg',hb⟩
 refine⟨q,rfl,⟨g',D,mq,G5,nb',hA',fun b hb'=> ?_,hD⟩,hb⟩
 have:=hg' b hb'
 by_cases h0:o b=0
 ·exact h0
 ·have:=(hM.new b h0).2;omega
end
theorem MB (o:Mark):∀(n b:Nat),b<n→o b≤((List.range n).map o).sum
 |n+1,b,h=>by
  rw[List.range_succ,List.map_append,List.sum_append]
  simp only[List.map_cons,List.map_nil,List.sum_cons,List.sum_nil]
  by_cases hb:b=n
  ·rw[hb];omega
  ·have:=MB o n b (by omega);omega
theorem Fz {W w:World} {o:Mark} (hM:Marks W o w):∃j,j≠0∧∀b,o b≠j:=by
 refine⟨((List.range w.heap.size).map o).sum+1,by omega,fun b hb=> ?_⟩
 have h1:=(hM.new b (by omega)).2
 have:=MB o w.heap.size b h1
 omega
def dx (T:aK) (k:Nat):aK:=((jW T).take k).foldl (fun S id=>(fO S id).2) T
theorem nZ (T:aK):dx T 0=T:=by unfold dx;rw[List.take_zero];rfl
theorem n_ {T:aK} {k:Nat} {id:Int} (h:(jW T)[k]? =some id):dx T (k+1)=(fO (dx T k) id).2:=by
 unfold dx
 obtain⟨hk,e⟩:=List.getElem?_eq_some_iff.1 h
 rw[List.take_succ_eq_append_getElem hk,List.foldl_append,e]
 rfl
theorem pJ {T:aK}:dx T T.length=bS T:=by
 unfold dx bS
 rw[List.take_of_length_le (by unfold jW;rw[List.length_map];omega)]
theorem dI.dx {T:aK} (h:dI T):∀k,dI (dx T k)
 |0=>by rw[nZ];exact h
 |k+1=>by
  cases hg:(jW T)[k]? with
  |some id=>rw[n_ hg];exact(h.dx k).fO id
  |none=>
   have:Go.Proofs.YtmabllemjkcobaaGreatDoor.dx T (k+1)=Go.Proofs.YtmabllemjkcobaaGreatDoor.dx T k:=by
    have hl:=List.getElem?_eq_none_iff.1 hg
    unfold Go.Proofs.YtmabllemjkcobaaGreatDoor.dx
    rw[List.take_of_length_le hl,List.take_of_length_le (by omega)]
   rw[this];exact h.dx k
theorem fC.dx {T:aK} (h:fC T):∀k,fC (dx T k)
 |0=>by rw[nZ];exact h
 |k+1=>by
  cases hg:(jW T)[k]? with
  |some id=>rw[n_ hg];exact(h.dx k).fO id
  |none=>
   have:Go.Proofs.YtmabllemjkcobaaGreatDoor.dx T (k+1)=Go.Proofs.YtmabllemjkcobaaGreatDoor.dx T k:=by
    have hl:=List.getElem?_eq_none_iff.1 hg
    unfold Go.Proofs.YtmabllemjkcobaaGreatDoor.dx
    rw[List.take_of_length_le hl,List.take_of_length_le (by omega)]
   rw[this];exact h.dx k
theorem dI.bS {T:aK} (h:dI T):dI (bS T):=by rw[←pJ];exact h.dx _
theorem fC.bS {T:aK} (h:fC T):fC (bS T):=by rw[←pJ];exact h.dx _
section
variable {W w:World} {o:Mark} {i p:Nat} {T:aK}
set_option maxRecDepth 100000 in
set_option maxHeartbeats 4000000 in
theorem rV (h:dN o i w p T) (hM:Marks W o w) (hT:dI T) (j:Nat) (hj:j≠0) (hf:∀b,o b≠j):
  Calls Tryz.prog 51 #[ptr p] w fun e w'=>∃q o',e= .returned (ptr q)∧Step o (fun i=>i=j) w o' w'∧dN o' j w' q (bS T)∧Below w.heap.size w w':=by
 have RJ:=Lib.hid (Qq h hM hT j)
 have HM:=Lib.hid hM
 have HT:=Lib.hid hT
 have HJ:=Lib.hid hj
 have HF:=Lib.hid hf
 have hTl:=hT.len
 clear h hM hT hj hf
 go_enter Tryz.func51,Tryz.ntmps51
 go_wp2_with fail
 (with_reducible refine RJ.out.mono ?_)
 rintro e w1 ⟨q,o1,rfl,hs1,hT1,hb1⟩
 have mU:=Lib.hid hs1
 have jB:=Lib.hid (HM.out.step (fun e=>HJ.out e.symm) hs1)
 have HT1:=Lib.hid hT1
 have Af:=Lib.hid (TM hT1 HT.out)
 clear hs1 hT1 hb1
 go_wp2_with fail
 (with_reducible refine Af.out.mono ?_)
 rintro e w2 ⟨a,cap,rfl,hlc,hrow,hb2⟩
 have hll:(jW T).length=T.length:=by unfold jW;rw[List.length_map]
 rw[hll]at hlc hrow
 rw[hll]
 obtain⟨tl,htl⟩:∃tl,tl=T.length:=⟨_,rfl⟩
 rw[←htl]at hTl hlc hrow⊢
 have Qr:=Lib.hid htl
 have dS:=Lib.hid hrow
 have HS2:=Lib.hid (mU.out.then_ HM.out (fun e=>HJ.out e.symm) hb2)
 have HT2:=Lib.hid (HT1.out.grow hb2)
 clear hb2 hrow htl hll
 have HR2:=Lib.hid ((dS.out.xJ jB.out))
 clear dS
 go_wp2_with fail
 go_loopw [4,12] (fun _ iv wr=>∃(k:Nat) (o2:Mark),iv= .int .i64 k∧k≤tl∧Step o (fun i=>i=j) w o2 wr∧dN o2 j wr q (dx T k)∧aj (Free o2 wr) wr a tl ((jW T).map (Value.int .i64))) (fun _ iv _=>tl-(intOf iv).toNat)
 case atStart=>
  exact⟨0,o1,rfl,Nat.zero_le _,HS2.out,by rw[nZ];exact HT2.out,HR2.out⟩
 case round=>
  obtain⟨k,o2,rfl,hk,hs,hTk,Hr⟩:=hrel
  have HS:=Lib.hid hs
  have O_:=Lib.hid hTk
  have Qs:=Lib.hid Hr
  clear hs hTk Hr
  by_cases hlt:k<tl
  ·have hd:decide ((k:Int)<(tl:Int))=true:=by simpa using hlt
   obtain⟨id,hid⟩:∃id,(jW T)[k]? =some id:=⟨(jW T)[k]'(by unfold jW;rw[List.length_map,←Qr.out];exact hlt),List.getElem?_eq_getElem _⟩
   obtain⟨b,off,rfl,YH,hbw,hc⟩:=Qs.out.at_ (by omega)
   have hck:=hc k hlt
   rw[List.getElem?_map,hid]at hck
   have hcell:wr.cell? ⟨b,off+k,none⟩=some (.int .i64 id):=hck
   have hwf:(Lit.int .i64 id).wf=true:=by
    have hm:=List.mem_of_getElem? hid
    unfold jW at hm
    obtain⟨q',hq',rfl⟩:=List.mem_map.1 hm
    have:=HT.out.ids q'.1 q'.2 (aY dQ HT.out.sorted hq')
    simp[Lit.wf,IntKind.min,IntKind.max,IntKind.signed,IntKind.bits]
    omega
   have HDR:=Lib.hid (Qp O_.out (HM.out.step (fun e=>HJ.out e.symm) HS.out) HJ.out (HT.out.dx k) id hwf)
   have i0:(0:Int)≤(k:Int):=by omega
   have i1:(k:Int)<(tl:Int):=by omega
   have ZF:=Lib.hid hid
   clear hid YH hbw hc hck hwf
   go_wp2_with fail
   (with_reducible refine HDR.out.mono ?_)
   rintro e w3 ⟨rfl,o3,hs3,wI⟩
   have wG:=Lib.hid (HS.out.trans hs3)
   have HT3:=Lib.hid wI
   have HR3:=Lib.hid (Qs.out.free (fun e=>HJ.out e.symm) hs3)
   clear hs3 wI HDR
   go_wp2_with fail
   go_roundw
   case rel=>
    refine⟨k+1,o3,by go_num,by omega,wG.out,?_,HR3.out⟩
    rw[n_ ZF.out]
    exact HT3.out
   case measure=>simp[intOf];omega
  ·have hd:decide ((k:Int)<(tl:Int))=false:=by simp;omega
   obtain rfl:tl=k:=by omega
   go_wp2_with fail
   go_ret
   have h9:=O_.out
   rw[Qr.out,pJ]at h9
   refine⟨q,o2,rfl,HS.out,h9,?_⟩
   exact HS.out.keep.gP (Nat.le_refl _) fun x _ hx=>HF.out x hx
theorem lI (h:dN o i w p T) (hM:Marks W o w) (hT:dI T):
  Calls Tryz.prog 51 #[ptr p] w fun e w'=>∃q,e= .returned (ptr q)∧dN o 0 w' q (bS T)∧Below w.heap.size w w':=by
 obtain⟨j,hj,hf⟩:=Fz hM
 refine(rV h hM hT j hj hf).mono ?_
 rintro e w' ⟨q,o',rfl,hs,hT',hb⟩
 refine⟨q,rfl,hT'.remark (fun b hb' he=> ?_) (fun b hb' he=> ?_),hb⟩
 ·by_cases hlt:b<w.heap.size
  ·rw[hs.old b hlt]at he;exact absurd he (hf b)
  ·exact Decidable.byContradiction fun h0=>by have:=(hM.new b h0).2;omega
 ·by_cases hlt:b<w.heap.size
  ·rw[hs.old b hlt]at he;exact he
  ·exact Decidable.byContradiction fun h0=>by have:=(hM.new b h0).2;omega
end
section
variable {W w:World} {o:Mark} {i s:Nat} {S:nQ}
theorem dR.grow (h:dR o i w s S) {w':World} (hM:Marks W o w) (hb:Below w.heap.size w w'):dR o i w' s S:=
 h.step (I:=fun _=>False) (fun h=>h) (fun h=>h) (Step.grow hM hb)
theorem Jy (hM:Marks W o w) (j:Nat) (hj:j≠0):Calls Tryz.prog 33 #[] w fun e w'=>∃s o',e= .returned (ptr s)∧Step o (fun k=>k=j) w o' w'∧dR o' j w' s Hg∧Below w.heap.size w w':=by
 have HM:=Lib.hid hM
 clear hM
 go_enter Tryz.func33,Tryz.ntmps33
 go_wp2
 go_ret
 obtain⟨o',hs,h1,h2⟩:=fZ HM.out j (fun b=>b=w.heap.size) (w':=w.alloc (.cells #[.slice none 0 0, .int .i64 1, .slice none 0 0] 101)) (fun b hb=>by subst hb;simp) (wall w _)
 refine⟨w.heap.size,o',rfl,hs,⟨.slice none 0 0,none,0,[],(MapKept.heap_alloc w _).1,h1 _ rfl,by simp,⟨rfl, .inl ⟨rfl,rfl⟩⟩,fun b hb=>by simp[Value.ownBlock]at hb,rfl,Nat.le_refl _,aj.nil _ _ _⟩,wall w _⟩
def xV (l:List jJ) (id v:Int):Prop:=
 (v= -1∧∀x∈l,x.id≠id)∨∃(k:Nat) (x:jJ),v=k∧l[k]? =some x∧x.id=id∧∀x'∈l.take k,x'.id≠id
theorem Jz (z:Int) (hv qv:Value) (id:Int) (vb:Nat) (w:World) (hc:w.cell? ⟨vb,0,none⟩=some (.int .i64 id)) (hvb:vb<w.heap.size):Calls Tryz.prog 180 #[.agg #[.int .i64 z,hv,qv],ptr vb] w fun e w'=>e= .returned (.bool (z==id))∧Below w.heap.size w w':=by
 have hc2:(w.alloc (.cells #[.int .i64 z,hv,qv] 105)).cell? ⟨vb,0,none⟩=some (.int .i64 id):=((wall w _).cell (p:=⟨vb,0,none⟩) hvb).trans hc
 go_enter Tryz.func180,Tryz.ntmps180
 go_wp2
 go_ret
 exact⟨rfl,wall w _⟩
theorem JA {a:Option Addr} {n c:Nat} {vals:List Value} {l:List jJ} (id:Int) (vb:Nat) (hl:l.length=n) (hr:aj (fun b=>b<w.heap.size) w a (n*3) vals) (hO:dh o w vals l) (hn:n≤1000) (hc:w.cell? ⟨vb,0,none⟩=some (.int .i64 id)) (hvb:vb<w.heap.size):
  Calls Tryz.prog 179 #[.slice a n c, .func (.func 180) #[] #[ptr vb]] w fun e w'=>∃v,e= .returned (.int .i64 v)∧xV l id v∧Below w.heap.size w w':=by
 have HR:=Lib.hid hr
 have HO:=Lib.hid hO
 have HL:=Lib.hid hl
 clear hr hO hl
 go_enter Tryz.func179,Tryz.ntmps179
 go_wp2
 go_loopw [5,8] (fun _ iv wr=>∃k:Nat,k≤n∧iv= .int .i64 k∧(∀x∈l.take k,x.id≠id)∧Below w.heap.size w wr) (fun _ iv _=>n-(intOf iv).toNat)
 case atStart=>exact⟨0,by omega,rfl,by simp,Below.refl _ _⟩
 case round=>
  obtain⟨k,hk,rfl,hno,hb⟩:=hrel
  have Ht:=Lib.hid hno
  have HB:=Lib.hid hb
  clear hno
  by_cases hlt:k<n
  ·obtain⟨g,off,rfl,hgw,_,hcell⟩:=HR.out.at_ (by omega)
   obtain⟨x,hx⟩:∃x,l[k]? =some x:=⟨l[k]'(by rw[HL.out];exact hlt),List.getElem?_eq_getElem _⟩
   obtain⟨ha,hcp,q,e0,e1,e2,_⟩:=HO.out.at_ hx
   have d0:wr.cell? ⟨g,off+k*3,none⟩=some (.int .i64 x.id):=(hb.cell (p:=⟨g,off+k*3,none⟩) hgw).trans ((hcell (k*3) (by omega)).trans e0)
   have d1:wr.cell? ⟨g,off+k*3+1,none⟩=some (.slice ha x.hash.length hcp):=(hb.cell (p:=⟨g,off+k*3+1,none⟩) hgw).trans ((hcell (k*3+1) (by omega)).trans e1)
   have d2:wr.cell? ⟨g,off+k*3+2,none⟩=some (ptr q):=(hb.cell (p:=⟨g,off+k*3+2,none⟩) hgw).trans ((hcell (k*3+2) (by omega)).trans e2)
   have HX:=Lib.hid hx
   have hcv:=(hb.cell (p:=⟨vb,0,none⟩) hvb).trans hc
   have HF:=Lib.hid (Jz x.id (.slice ha x.hash.length hcp) (ptr q) id vb wr hcv (by have:=hb.size;omega))
   have i0:(0:Int)≤(k:Int):=by omega
   have i1:(k:Int)<(n:Int):=by omega
   have hd:decide ((k:Int)<(n:Int))=true:=by simpa using i1
   clear hx hcell e0 e1 e2 hcv hb
   by_cases he:x.id=id
   ·have he2:(x.id==id)=true:=by simpa using he
    rw[he2]at HF
    have HE:=Lib.hid he
    clear he he2
    go_wp2_with fail
    (with_reducible refine HF.out.mono ?_)
    rintro e w1 ⟨rfl,hb1⟩
    go_wp2_with fail
    go_ret
    exact⟨k,rfl, .inr ⟨k,x,rfl,HX.out,HE.out,Ht.out⟩,HB.out.trans (hb1.mono HB.out.size)⟩
   ·have he2:(x.id==id)=false:=by simpa using he
    rw[he2]at HF
    have HE:=Lib.hid he
    clear he he2
    go_wp2_with fail
    (with_reducible refine HF.out.mono ?_)
    rintro e w1 ⟨rfl,hb1⟩
    go_wp2_with fail
    go_roundw
    case rel=>
     refine⟨k+1,by omega,by go_num,fun y hy=> ?_,HB.out.trans (hb1.mono HB.out.size)⟩
     obtain⟨hkl,ek⟩:=List.getElem?_eq_some_iff.1 HX.out
     rw[List.take_succ_eq_append_getElem hkl,ek]at hy
     rcases List.mem_append.1 hy with hy|hy
     ·exact Ht.out y hy
     ·simp only[List.mem_singleton]at hy
      rw[hy];exact HE.out
    case measure=>simp[intOf];omega
  ·have hd:decide ((k:Int)<(n:Int))=false:=by simp;omega
   go_wp2_with fail
   go_ret
   refine⟨-1,rfl, .inl ⟨rfl,fun x hx=>Ht.out x ?_⟩,HB.out⟩
   rw[List.take_of_length_le (by have:=HL.out;omega)]
   exact hx
theorem Du (h:dR o i w s S) (id:Int) (hn:S.l.length≤1000):Calls Tryz.prog 113 #[ptr s, .int .i64 id] w fun e w'=>∃v,e= .returned (.int .i64 v)∧xV S.l id v∧Below w.heap.size w w':=by
 obtain⟨v,la,lc,vals,h1,h2,h3,h4,h5,h6,h7,h8⟩:=h.at_
 obtain⟨a,c,rfl,hcap⟩:=bF h4
 obtain⟨-,-,hrow⟩:=aj.nP h4 (by unfold maxLen;omega)
 have c0:w.cell? ⟨s,0,none⟩=some (.slice a S.l.length c):=by simp[World.cell?,h1]
 obtain⟨n,hnl⟩:∃n,n=S.l.length:=⟨_,rfl⟩
 rw[←hnl]at c0 hrow hcap hn
 have hca:=(wall w (.cells #[.int .i64 id] 3))
 have c1:=(hca.cell (p:=⟨s,0,none⟩) h3).trans c0
 have HI:=Lib.hid (JA (w:=w.alloc (.cells #[.int .i64 id] 3)) (a:=a) (n:=n) (c:=c) id w.heap.size hnl.symm ((hrow.below hca (Nat.le_refl _)).mono fun b hb=>by simp;omega) (show dh o _ vals S.l from dh.grow hca h6) hn jU (by simp))
 clear h h1 h2 h4 h5 h6 h7 h8 hrow hca c0 hnl
 go_enter Tryz.func113,Tryz.ntmps113
 go_wp2_with fail
 (with_reducible refine HI.out.mono ?_)
 rintro e w1 ⟨v,rfl,hf,hb1⟩
 have HF:=Lib.hid hf
 have HB:=Lib.hid hb1
 clear hf hb1
 go_wp2_with fail
 go_ret
 exact⟨v,rfl,HF.out,(wall w _).trans (HB.out.mono (by simp))⟩
end
end Go.Proofs.YtmabllemjkcobaaGreatDoor
