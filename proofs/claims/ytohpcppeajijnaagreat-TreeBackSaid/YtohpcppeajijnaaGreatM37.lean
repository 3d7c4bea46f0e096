/- (*tree.Tree).Save. Trees with marks: what turns them, copies, what is committed. The reference's tree of law 11 under a mark: its own block bears it, what it names bears none. The codec's reader, as plain data. -/
import Derived.Test.YtohpcppeajijnaaGreatM36
import Derived.Test.YtohpcppeajijnaaGreatM35
import Derived.Test.YtohpcppeajijnaaGreatM17
import Derived.Test.YtohpcppeajijnaaGreatM23
import Derived.Test.YtohpcppeajijnaaGreatM32
namespace Go.Proofs.YtohpcppeajijnaaGreat
open Go.ChangeShapes Go.WideShapes Go.ChangeAt Go.RowKit
set_option linter.unusedVariables false
set_option linter.unusedSimpArgs false
section
variable {g:Nat→Own} {D:Nat→Prop} {p mb:Nat} {ib nb:Int→Nat} {T:aF}
theorem jk.other {B x:Nat} {w w':World} {v v':Value} {bs:List UInt8} (h:jk B w x v bs v' w') {b:Nat} (hb:b<w.heap.size) (hx:b≠x) (hv:v.ownBlock≠some b):w'.heap[b]? =w.heap[b]? ∧v'.ownBlock≠some b:=
 ⟨h.2.1.block b hb fun hf=>hf.elim hx hv,fun he=>by
  rcases h.2.2 b he with h1|h1
  ·exact hv h1
  ·omega⟩
theorem Jo (w:World) (l:List UInt8) (hl:l.length≤1000):∃cap w1,(convert 9 39 (.string (strOf l))).run Tryz.prog w= .ok (.slice (some ⟨w.heap.size,0,none⟩) l.length cap) w1∧Below w.heap.size w w1∧w.heap.size<w1.heap.size∧l.length≤cap∧av (fun b=>b=w.heap.size) w1 (some ⟨w.heap.size,0,none⟩) l.length (l.map bv):=by
 have h:=Lib.run_convert_string_bytes (P:=Tryz.prog) w 9 39 5 (strOf l) Tryz.underlying9 Tryz.underlying39 Tryz.underlying5
 rw[fF]at h
 refine⟨_,_,h,⟨rfl,rfl,rfl,by rw[Lib.bytesWorld_size];omega,fun k hk=>Lib.bytesWorld_at_old w _ _ k hk⟩,by rw[Lib.bytesWorld_size];omega,grownCap_ge _ _ _ _,⟨by simp,by unfold maxLen;omega,fun h0=>⟨w.heap.size,0,rfl,rfl,by rw[Lib.bytesWorld_size];omega,fun i hi=> ?_⟩⟩⟩
 rw[Nat.zero_add,Lib.bytesWorld_cell w _ _ i (by rw[fF];exact hi)]
 have e1:(strOf l).data.toList=l:=rfl
 rw[e1,List.getElem?_map,List.getElem?_eq_getElem hi,List.getD_eq_getElem?_getD,List.getElem?_eq_getElem hi]
 rfl
structure QE (w:World) (D:Nat→Prop) (p mb:Nat) (ib nb:Nat) (k:Int) (x:bF) (T':List (Int×Value)) (a:Option Addr) (c:Nat):Prop where
 c0:w.cell? ⟨ib,0,none⟩=some (.int .i64 k)
 c1:w.cell? ⟨ib,1,none⟩=some (.int .i64 x.kind)
 c2:w.cell? ⟨ib,2,none⟩=some (.int .i64 x.links)
 c3:w.cell? ⟨ib,3,none⟩=some (.int .i64 x.b.length)
 c4:w.cell? ⟨ib,4,none⟩=some (.int .u64 x.aK)
 c5:w.cell? ⟨ib,5,none⟩=some (.bool x.closed)
 c6:w.cell? ⟨ib,6,none⟩=some (.slice a x.b.length c)
 c7:w.cell? ⟨ib,7,none⟩=some (fJ x nb)
 row:av D w a x.b.length (x.b.map bv)
 head:w.cell? ⟨p,0,none⟩=some (.map (some mb))
 map:MapAt aW w mb T'
 names:x.kind=2→MapAt cK w nb (bO x)
theorem DK {w:World} (h:aJ g D w p mb ib nb T) {k:Int} {x:bF} (hx:aj k T=some x):∃a c,x.b.length≤c∧∀w',Below w.heap.size w w'→QE w' D p mb (ib k) (nb k) k x (T.map fun q=>(q.1,ptr (ib q.1))) a c:=by
 obtain⟨⟨a,c,hblk,hcap,hrow⟩,_⟩:=h.item k x hx
 have hiw:=(Array.getElem?_eq_some_iff.1 hblk).1
 refine⟨a,c,hcap.1,fun w' hb=> ?_⟩
 have h':=h.below hb (Nat.le_refl _)
 obtain⟨c0,c1,c2,c3,c4,c5,c7,_⟩:=(h'.item k x hx).cell
 refine⟨c0,c1,c2,c3,c4,c5,?_,c7,hrow.below hb (Nat.le_refl _),h'.cell.1,h'.map,fun hk=>(h'.item k x hx).names hk⟩
 rw[hb.cell (p:=⟨ib k,6,none⟩) hiw]
 simp only[World.cell?,hblk]
 rfl
set_option maxRecDepth 100000 in
set_option maxHeartbeats 8000000 in
theorem La (w:World) (h:aJ g D w p mb ib nb T) (hT:dG T):Calls Tryz.prog 31 #[ptr p] w (zV w (iY T)):=by
 have Gf:=Lib.hid h
 have HT:=Lib.hid hT
 have hlen:=hT.len
 obtain⟨N,hN⟩:∃N,N=T.length:=⟨_,rfl⟩
 have qL:=Lib.hid hN
 rw[←hN]at hlen
 clear h hT hN
 go_enter Tryz.func31,Tryz.ntmps31
 go_wp2_with fail
 (with_reducible refine(q9 w).mono ?_)
 rintro e w1 ⟨rfl,hW1,hb1⟩
 have HW1:=Lib.hid hW1
 have HB1:=Lib.hid hb1
 have h1:=Gf.out.below hb1 (Nat.le_refl _)
 have hs1:=hb1.size
 obtain⟨hc0,hpw,hmw⟩:=h1.cell
 have Cc:=Lib.hid h1.map
 have lq:=Lib.hid (kg hW1 (N:Int) (by omega) (by omega) (by simp))
 clear h1 hW1 hb1
 go_wp2_with (at_len;refine gI aW rfl _ 94 92 rfl Tryz.underlying94 rfl Cc.out ?_;rw[List.length_map,←qL.out])
 (with_reducible refine lq.out.mono ?_)
 rintro e w2 ⟨rfl,v2,hm2⟩
 have HW2:=Lib.hid hm2.1
 have HB2:=Lib.hid (HB1.out.trans (hm2.low HW1.out))
 have Vw:=Lib.hid (K6 w2 (Gf.out.below HB2.out (Nat.le_refl _)) (by rw[←qL.out];omega))
 clear hm2 lq hc0 hpw hmw Cc HB1
 go_wp2_with fail
 (with_reducible refine Vw.out.mono ?_)
 rintro e w3 ⟨a3,c3,rfl,hc3,hr3,hb3⟩
 have hil:(xg T).length=N:=by unfold xg;rw[List.length_map,qL.out]
 rw[hil]at hc3 hr3⊢
 have HW3:=Lib.hid (HW2.out.below hb3)
 have HB3:=Lib.hid (HB2.out.trans (hb3.mono HB2.out.size))
 have HR3:=Lib.hid hr3
 have XI:Hid (∀b,w2.heap.size≤b→b≠w.heap.size∧v2.ownBlock≠some b):=fun b hb=>⟨by have:=HW2.out.lt;omega,fun he=>by have:=xq HW2.out.own b he;omega⟩
 clear hb3 hr3 Vw HW2
 go_wp2_with fail
 go_loopw [22] (fun iv wr=>∃(i:Nat) (v':Value),i≤N∧iv= .int .i64 i∧jk w.heap.size w3 w.heap.size v2 (iL (N:Int) 2++(T.take i).flatMap fun q=>jV q.1 q.2) v' wr) (fun iv _=>N-(intOf iv).toNat)
 case atStart=>exact⟨0,v2,by omega,rfl,by simpa using jk.refl HW3.out⟩
 case round=>
  obtain⟨i,v',hi,rfl,hm⟩:=hrel
  have HM:=Lib.hid hm
  have JX:=Lib.hid (HB3.out.trans (hm.low HW3.out))
  clear hm
  by_cases hin:i<N
  ·have hd1:decide ((i:Int)<(N:Int))=true:=by simpa using hin
   obtain⟨e,he⟩:∃e,T[i]? =some e:=⟨_,List.getElem?_eq_getElem (by have:=qL.out;omega)⟩
   obtain⟨k,x⟩:=e
   have hmem:(k,x)∈T:=List.mem_of_getElem? he
   have hx:aj k T=some x:=aY dB HT.out.sorted hmem
   obtain⟨ab,cb,hcb,hF⟩:=DK Gf.out hx
   have O1:=Lib.hid (HT.out.each k x hx)
   have l7:=HT.out.ids k x hx
   have hok:aW.ok k:=l6 l7.1 (by omega)
   have HG:Hid (aj k (T.map fun q=>(q.1,ptr (ib q.1)))=some (ptr (ib k))):=by rw[dw,hx];rfl
   obtain⟨b3,o3,rfl,XJ,TU,hcc⟩:=HR3.out.at_ (by omega)
   have Vx:=XI.out b3 XJ.1
   have ck:wr.cell? ⟨b3,o3+i,none⟩=some (.int .i64 k):=by
    rw[World.cell?_of_block (w:=w3) (w':=wr) (a:=⟨b3,o3+i,none⟩) (HM.out.other TU Vx.1 Vx.2).1,hcc i hin]
    unfold xg
    rw[List.getElem?_map,List.getElem?_map,he]
    rfl
   have FR:=hF wr JX.out
   have HF:=Lib.hid hF
   have HX:=Lib.hid hx
   have HE:=Lib.hid he
   have c0:=FR.c0
   have c1:=FR.c1
   have c2:=FR.c2
   have c3':=FR.c3
   have c4:=FR.c4
   have c5:=FR.c5
   have p0:=FR.head
   have fM:=Lib.hid FR.map
   have hen:=DI k x O1.out l7.1 l7.2 wr
   unfold jg at hen
   have FI:=Lib.hid hen
   have hi0:(0:Int)≤(i:Int):=by omega
   have Y_:(i:Int)<(N:Int):=by omega
   clear hx he hmem hF FR hen hcc
   go_wp2_with (first|(at_lookup;refine aL aW rfl _ _ 94 92 rfl Tryz.underlying94 (Tryz.aU _) rfl fM.out k rfl hok ?_;rw[HG.out]))
   (with_reducible refine FI.out.mono ?_)
   rintro e w4 ⟨ae,ne,ce,rfl,hce,hre,hbe⟩
   have hne:ne=16:=by have h9:=hre.length;rw[List.length_map,kL]at h9;omega
   subst hne
   obtain⟨Jp,Lb⟩:∃Jp,Jp=(iL (N:Int) 2++(T.take i).flatMap fun q=>jV q.1 q.2):=⟨_,rfl⟩
   rw[←Lb]at HM
   have hl0:Jp.length≤5800000:=by
    have h9:=qH HT.out (T.take i) fun q hq=>List.mem_of_mem_take hq
    rw[List.length_take]at h9
    rw[Lb,List.length_append,fu]
    omega
   have Ru:=Lib.hid Lb
   have TV:=HM.out.1.below hbe
   have Pm:=Lib.hid TV
   have dX:=Lib.hid (JX.out.trans (hbe.mono JX.out.size))
   have XK:=HM.out.1.lt
   have IQ:=Lib.hid (Am TV ae 16 ce (o_ k x) hre (fun b hb=>⟨by omega,fun he=>by have:=xq HM.out.1.own b he;omega⟩) hce (by omega) (by omega))
   have vG:=Lib.hid (HM.out.below hbe)
   clear Lb TV hre hbe hce FI ck c0 c1 c2 c3' c4 c5 p0 fM
   go_wp2_with fail
   (with_reducible refine IQ.out.mono ?_)
   rintro e w5 ⟨rfl,v5,K9⟩
   have JZ:=Lib.hid (vG.out.trans K9)
   have iR:=Lib.hid (dX.out.trans ((K9.low Pm.out).mono (Nat.le_refl _)))
   have F5:=HF.out w5 iR.out
   have c6:=F5.c6
   have hbl:=O1.out.size
   have CK:=Lib.hid Gf.out.nW
   have Qb:=Lib.hid (Am K9.1 ab x.b.length cb x.b F5.row (fun b hb=>⟨by have:=CK.out b hb;omega,fun he=>by have:=iA K9.1.own b he;have:=CK.out b hb;omega⟩) hcb (by simp only[List.length_append,kL,fu];omega) (by omega))
   clear K9 F5 IQ Pm dX vG
   go_wp2_with fail
   (with_reducible refine Qb.out.mono ?_)
   rintro e w6 ⟨rfl,v6,Ox⟩
   have oM:=Lib.hid (iR.out.trans (Ox.low JZ.out.1))
   have uX:=Lib.hid (JZ.out.trans Ox)
   clear Ox Qb c6 JZ iR
   have rZ:=HT.out.few HX.out
   have F6:=HF.out w6 oM.out
   have c7:=F6.c7
   obtain⟨L,hL⟩:∃L,L=x.names.length:=⟨_,rfl⟩
   have EJ:=Lib.hid hL
   have hlb:(Jp++(iL ((16:Nat):Int) 2++o_ k x)++(iL (x.b.length:Int) 2++x.b)).length≤5900000:=by simp only[List.length_append,kL,fu];omega
   have IE:=Lib.hid (kg uX.out.1 (L:Int) (by omega) (by omega) (by omega))
   by_cases hk2:x.kind=2
   ·have e2:fJ x (nb k)= .map (some (nb k)):=if_pos hk2
    rw[e2]at c7
    have HN:=Lib.hid (F6.names hk2)
    have Cz:=Lib.hid hk2
    clear F6 hk2 e2 hL
    go_wp2_with (at_len;refine gI cK rfl _ 107 3 rfl Tryz.underlying107 rfl HN.out ?_;rw[bO,List.length_map,←EJ.out])
    (with_reducible refine IE.out.mono ?_)
    rintro e w7 ⟨rfl,v7,Jl⟩
    have Lc:=oM.out.trans (Jl.low uX.out.1)
    have qO:=Lib.hid Lc
    have JU:=Lib.hid (uX.out.trans Jl)
    have e2:fJ x (nb k)= .map (some (nb k)):=if_pos Cz.out
    have c7:=(HF.out w7 Lc).c7
    have hkk:=Tryz.Af (some (nb k)) w7
    have hso:=sorted_at k x w7 (Gf.out.below Lc (Nat.le_refl _)) HT.out HX.out
    rw[e2]at c7 hso
    have hll:(x.names.map (·.1)).length=L:=by rw[List.length_map,EJ.out]
    have Ov:=Lib.hid hso
    have Oy:=wall w7 (.cells #[.map (some (nb k))] 107)
    clear Jl Lc e2 hso IE uX oM HN
    go_wp2_with (go_at_call 88;refine hkk.mono ?_;rintro e w' ⟨rfl,rfl⟩)
    (with_reducible refine Ov.out.mono ?_)
    rintro e w8 ⟨a8,c8,rfl,hc8,mH,BM⟩
    rw[hll]at mH hc8⊢
    have Oz:Below w7.heap.size w7 w8:=Oy.trans (BM.mono Oy.size)
    have vD:=Lib.hid (qO.out.trans (Oz.mono qO.out.size))
    have J2:=Lib.hid (JU.out.below Oz)
    have CP:=Lib.hid mH
    have XL:Hid (∀b,w7.heap.size<b→b≠w.heap.size∧v7.ownBlock≠some b):=fun b hb=>⟨by have:=JU.out.1.lt;omega,fun he=>by have:=xq JU.out.1.own b he;omega⟩
    have XM:(w7.alloc (.cells #[.map (some (nb k))] 107)).heap.size=w7.heap.size+1:=by simp
    clear Oz BM Oy hkk mH Ov qO c7
    go_wp2_with fail
    go_loopw [63] (fun jv wr2=>∃(j:Nat) (vj:Value),j≤L∧jv= .int .i64 j∧jk w.heap.size w8 w.heap.size v7 (Jp++(iL ((16:Nat):Int) 2++o_ k x)++(iL (x.b.length:Int) 2++x.b)++iL (L:Int) 2++(x.names.take j).flatMap CO) vj wr2) (fun jv _=>L-(intOf jv).toNat)
    case atStart=>exact⟨0,v7,by omega,rfl,by simpa using jk.refl J2.out.1⟩
    case round=>
     obtain⟨j,vj,hj,rfl,TW⟩:=hrel
     have Pn:=Lib.hid TW
     have Vy:=Lib.hid (vD.out.trans (TW.low J2.out.1))
     clear TW
     by_cases TY:j<L
     ·have hd2:decide ((j:Int)<(L:Int))=true:=by simpa using TY
      obtain⟨en,hen⟩:∃en,x.names[j]? =some en:=⟨_,List.getElem?_eq_getElem (by have:=EJ.out;omega)⟩
      obtain⟨nm,id⟩:=en
      have EN:(nm,id)∈x.names:=List.mem_of_getElem? hen
      have hgn:=aY oU O1.out.sorted EN
      have XO:nm.length≤16:=mR (O1.out.good _ EN)
      have QF:=HT.out.leads k x HX.out _ EN
      obtain⟨y,hy⟩:=Option.isSome_iff_exists.1 QF.1
      have T9:0≤id∧id≤65535:=HT.out.ids _ _ hy
      obtain⟨b8,o8,s,rfl,vL,T_,hs,hsl,QG⟩:=CP.out.cell j TY
      rw[List.getElem?_map,List.getElem?_map,hen]at hs
      obtain rfl:strOf nm=s:=by simpa using hs
      have Pb:=XL.out b8 (by omega)
      have cn:wr.cell? ⟨b8,o8+j,none⟩=some (.string (strOf nm)):=(World.cell?_of_block (w:=w8) (w':=wr) (a:=⟨b8,o8+j,none⟩) (Pn.out.other T_ Pb.1 Pb.2).1).trans QG
      obtain⟨XP,wc,hrun,hbc,XQ,QH,hcells⟩:=Jo wr nm (by omega)
      have hrow:av (fun b=>b=wr.heap.size) wc (some ⟨wr.heap.size,0,none⟩) nm.length (nm.map bv):=hcells
      have Vz:=Pn.out.1.below hbc
      have hxw:=Pn.out.1.lt
      have hlj:(Jp++(iL ((16:Nat):Int) 2++o_ k x)++(iL (x.b.length:Int) 2++x.b)++iL (L:Int) 2++(x.names.take j).flatMap CO).length≤6000000:=by
       have h9:=Ao (x.names.take j) fun e he=>mR (O1.out.good e (List.mem_of_mem_take he))
       rw[List.length_take]at h9
       simp only[List.length_append,kL,fu]at hlb⊢
       omega
      have Rq:=Lib.hid (Am Vz (some ⟨wr.heap.size,0,none⟩) nm.length XP nm hrow (fun b hb=>⟨by rw[hb];omega,fun he=>by have:=xq Pn.out.1.own b he;omega⟩) QH (by omega) (by omega))
      have Ld:=Lib.hid (Pn.out.below hbc)
      have XR:=Lib.hid (Vy.out.trans (hbc.mono Vy.out.size))
      have AX:=Lib.hid hgn
      have Ua:=Lib.hid hen
      have hj0:(0:Int)≤(j:Int):=by omega
      have hL4:L≤4096:=by have:=EJ.out;omega
      have ew:IntKind.i64.wrap ((j:Int)+1)=(j:Int)+1:=IntWalk.i64_in _ (by omega)
      have XT:(j:Int)<(L:Int):=by omega
      clear hen EN hgn QF hy hs hsl QG hrow Vz hbc hcells
      go_wp2_with fail
      (with_reducible refine Rq.out.mono ?_)
      rintro e Dv ⟨rfl,v10,OA⟩
      have QI:=Lib.hid (Ld.out.trans OA)
      have qc:=Lib.hid (XR.out.trans (OA.low Ld.out.1))
      have Ub:=HF.out Dv qc.out
      have c7:=Ub.c7
      have e2:fJ x (nb k)= .map (some (nb k)):=if_pos Cz.out
      rw[e2]at c7
      have Uc:=Lib.hid (Ub.names Cz.out)
      have Ud:Hid (aj nm (bO x)=some (.int .i64 id)):=by rw[dI,AX.out];rfl
      have Ue:nm.length≤maxLen:=by unfold maxLen;omega
      have Uf:=Lib.hid (kg QI.out.1 id T9.1 (by omega) (by simp only[List.length_append,kL,fu]at hlj⊢;omega))
      clear OA Ub e2 hrun
      go_wp2_with (at_lookup;refine aL cK rfl _ _ 107 3 rfl Tryz.underlying107 (Tryz.dP _) rfl Uc.out nm rfl Ue ?_;rw[Ud.out])
      (with_reducible refine Uf.out.mono ?_)
      rintro e w_ ⟨rfl,v11,QJ⟩
      have OB:=QI.out.trans QJ
      have hby:Jp++(iL ((16:Nat):Int) 2++o_ k x)++(iL (x.b.length:Int) 2++x.b)++iL (L:Int) 2++(x.names.take j).flatMap CO++(iL (nm.length:Int) 2++nm)++iL id 2=Jp++(iL ((16:Nat):Int) 2++o_ k x)++(iL (x.b.length:Int) 2++x.b)++iL (L:Int) 2++(x.names.take (j+1)).flatMap CO:=by
       rw[List.take_add_one,Ua.out,List.flatMap_append]
       simp[CO,uy,List.append_assoc]
      rw[hby]at OB
      have Ug:=Lib.hid OB
      clear OB hby QJ
      go_wp2_with fail
      go_roundw
      case rel=>exact⟨j+1,v11,by omega,by go_num,Ug.out⟩
      case measure=>
       simp only[intOf]
       omega
     ·have hd2:decide ((j:Int)<(L:Int))=false:=by simpa using TY
      have hfin:Jp++(iL ((16:Nat):Int) 2++o_ k x)++(iL (x.b.length:Int) 2++x.b)++iL (L:Int) 2++(x.names.take j).flatMap CO=(iL (N:Int) 2++(T.take (i+1)).flatMap fun q=>jV q.1 q.2):=by
       rw[List.take_of_length_le (show x.names.length≤j by have:=EJ.out;omega),Ru.out,List.take_add_one,HE.out,List.flatMap_append,EJ.out]
       simp[jV,uy,kL,List.append_assoc]
      have OC:=J2.out.trans Pn.out
      rw[hfin]at OC
      have Uh:=Lib.hid OC
      clear OC hfin
      go_wp2_with fail
      go_roundw
      case rel=>exact⟨i+1,vj,by omega,by go_num,Uh.out⟩
      case measure=>simp[intOf];omega
   ·have e2:fJ x (nb k)= .map none:=if_neg hk2
    have hnil:x.names=[]:=O1.out.file (O1.out.kind.resolve_right hk2)
    obtain rfl:L=0:=by rw[hL,hnil];rfl
    rw[e2]at c7
    have QK:Hid (Calls Tryz.prog 83 #[ptr w.heap.size, .int .i64 0] w6 (nO w.heap.size w6 w.heap.size v6 (Jp++(iL ((16:Nat):Int) 2++o_ k x)++(iL (x.b.length:Int) 2++x.b)++iL ((0:Nat):Int) 2))):=IE.out
    clear F6 hk2 hL
    go_wp2_with fail
    (with_reducible refine QK.out.mono ?_)
    rintro e w7 ⟨rfl,v7,Jl⟩
    have Lc:=oM.out.trans (Jl.low uX.out.1)
    have qO:=Lib.hid Lc
    have JU:=Lib.hid (uX.out.trans Jl)
    have c7:=(HF.out w7 Lc).c7
    have hkk:=Tryz.Af none w7
    have hso:=sorted_at k x w7 (Gf.out.below Lc (Nat.le_refl _)) HT.out HX.out
    rw[e2]at c7 hso
    rw[hnil]at hso
    have Ov:=Lib.hid hso
    have Ig:=Lib.hid hnil
    have Oy:=wall w7 (.cells #[.map none] 107)
    clear Jl Lc e2 hso IE QK uX oM hnil
    go_wp2_with (go_at_call 88;refine hkk.mono ?_;rintro e w' ⟨rfl,rfl⟩)
    (with_reducible refine Ov.out.mono ?_)
    rintro e w8 ⟨a8,c8,rfl,hc8,mH,BM⟩
    have J2:=Lib.hid (JU.out.below (Oy.trans (BM.mono Oy.size)))
    simp only[List.map_nil,List.length_nil]at hc8⊢
    clear BM Oy hkk mH Ov qO c7
    have hfin:Jp++(iL ((16:Nat):Int) 2++o_ k x)++(iL (x.b.length:Int) 2++x.b)++iL ((0:Nat):Int) 2=(iL (N:Int) 2++(T.take (i+1)).flatMap fun q=>jV q.1 q.2):=by
     rw[Ru.out,List.take_add_one,HE.out,List.flatMap_append]
     simp[jV,uy,kL,Ig.out,List.append_assoc]
    have OC:=J2.out
    rw[hfin]at OC
    have Uh:=Lib.hid OC
    clear OC hfin J2 JU
    go_wp2_with fail
    go_loopw [63] (fun jv wr2=>jv= .int .i64 0∧wr2=w8) (fun jv _=>0)
    case atStart=>exact⟨rfl,rfl⟩
    case round=>
     obtain⟨rfl,rfl⟩:=hrel
     go_wp2_with fail
     go_roundw
     case rel=>exact⟨i+1,v7,by omega,by go_num,Uh.out⟩
     case measure=>simp[intOf];omega
  ·have hd1:decide ((i:Int)<(N:Int))=false:=by simpa using hin
   have VA:(iL (N:Int) 2++(T.take i).flatMap fun q=>jV q.1 q.2)=iY T:=by
    rw[List.take_of_length_le (by have:=qL.out;omega),qL.out]
    rfl
   have XU:(iY T).length≤100000000:=by
    have:=qH HT.out T fun q hq=>hq
    unfold iY
    rw[List.length_append,fu]
    have:=qL.out
    omega
   have HD:=Lib.hid (Ca HM.out.1 (by rw[VA];exact XU))
   rw[VA]at HD
   go_wp2_with fail
   (with_reducible refine HD.out.mono ?_)
   rintro e w9 ⟨a9,n9,c9,rfl,TS,QD,qP⟩
   have NU:=Lib.hid QD
   have zx:=Lib.hid (JX.out.trans (qP.mono JX.out.size))
   have hsr:=JX.out.size
   clear QD qP
   go_wp2_with fail
   go_ret
   exact⟨a9,n9,c9,rfl,TS,NU.out.mono fun b hb=>⟨by omega,hb.2⟩,zx.out⟩
end
section
variable {W w:World} {o:Mark} {i p:Nat} {T:aF}
theorem Le {S S':Nat→Prop} (h:f_ o i w p T) (hM:Marks W o w) (hi:i≠0) (hT:dG T) (a:Option Addr) (n c:Nat) (ls:List Nm) (a':Option Addr) (n' c':Nat) (ls':List Nm) (hS:aH S w a n (ls.map strOf)) (hS':aH S' w a' n' (ls'.map strOf)) (hc':n'≤c') (jS:n'≤1000000):
  Calls Tryz.prog 16 #[ptr p, .slice a n c, .slice a' n' c'] w (fD o i w p (dz T ls ls').2 (.int .i64 (dz T ls ls').1)):=by
 obtain⟨g,D,mb,ib,nb,hA,hg,hD⟩:=h
 exact(Es a n c ls a' n' c' ls' w hA hT hS hS' hc' jS).mono fun e w' ht=>fD.of hM hi hg hD ht
theorem Gg {S:Nat→Prop} (h:f_ o i w p T) (hM:Marks W o w) (hi:i≠0) (hT:dG T) (a:Option Addr) (n c:Nat) (ls:List Nm) (hS:aH S w a n (ls.map strOf)) (hc:n≤c) (jS:n≤1000000):
  Calls Tryz.prog 18 #[ptr p, .slice a n c] w (fD o i w p (bB T ls).2 (.int .i64 (bB T ls).1)):=by
 obtain⟨g,D,mb,ib,nb,hA,hg,hD⟩:=h
 exact(yP a n c ls w hA hT hS hc jS).mono fun e w' ht=>fD.of hM hi hg hD ht
theorem Jq {S:Nat→Prop} (h:f_ o i w p T) (hM:Marks W o w) (hi:i≠0) (hT:dG T) (a:Option Addr) (n c:Nat) (ls:List Nm) (hS:aH S w a n (ls.map strOf)) (hc:n≤c) (jS:n≤1000000):
  Calls Tryz.prog 14 #[ptr p, .slice a n c] w (fD o i w p (bU T ls).2 (.int .i64 (bU T ls).1)):=by
 obtain⟨g,D,mb,ib,nb,hA,hg,hD⟩:=h
 exact(Bg a n c ls w hA hT hS hc jS).mono fun e w' ht=>fD.of hM hi hg hD ht
theorem Gh {S S':Nat→Prop} (h:f_ o i w p T) (hM:Marks W o w) (hi:i≠0) (hO:fU T) (a:Option Addr) (n c:Nat) (ls:List Nm) (a':Option Addr) (n' c':Nat) (ls':List Nm) (hS:aH S w a n (ls.map strOf)) (hS':aH S' w a' n' (ls'.map strOf)) (hc:n≤c) (jS:n≤1000000) (hc':n'≤c') (uj:n'≤1000000):
  Calls Tryz.prog 93 #[ptr p, .slice a n c, .slice a' n' c'] w (fD o i w p (aT T ls ls').2 (.int .i64 (aT T ls ls').1)):=by
 obtain⟨g,D,mb,ib,nb,hA,hg,hD⟩:=h
 exact(za a n c ls a' n' c' ls' w hA hO hS hS' hc jS hc' uj).mono fun e w' ht=>fD.of hM hi hg hD ht
theorem Lf (h:f_ o i w p T) (hM:Marks W o w) (hi:i≠0) (id aK:Int) (hid:(Lit.int .i64 id).wf=true) (ht0:0≤aK) (ht1:aK≤18446744073709551615):
  Calls Tryz.prog 23 #[ptr p, .int .i64 id, .int .u64 aK] w (fD o i w p (dR T id aK).2 (.int .i64 (dR T id aK).1)):=by
 obtain⟨g,D,mb,ib,nb,hA,hg,hD⟩:=h
 exact(Eo id aK w hA hid ht0 ht1).mono fun e w' ht=>fD.of hM hi hg hD ht
theorem Lg (h:f_ o i w p T) (hM:Marks W o w) (hi:i≠0) (hT:dG T) (id aK:Int) (hid:(Lit.int .i64 id).wf=true) (ht0:0≤aK) (ht1:aK≤18446744073709551615):
  Calls Tryz.prog 25 #[ptr p, .int .i64 id, .int .u64 aK] w (fD o i w p (dL T id aK).2 (.int .i64 (dL T id aK).1)):=by
 obtain⟨g,D,mb,ib,nb,hA,hg,hD⟩:=h
 exact(Ep id aK w hA hid ht0 ht1 (fun x hx=>(hT.each id x hx).aK)).mono fun e w' ht=>fD.of hM hi hg hD ht
theorem Lh (h:f_ o i w p T) (hM:Marks W o w) (hi:i≠0) (hT:dG T) (id:Int) (hid:(Lit.int .i64 id).wf=true):
  Calls Tryz.prog 29 #[ptr p, .int .i64 id] w (fD o i w p (dM T id).2 (.int .i64 (dM T id).1)):=by
 obtain⟨g,D,mb,ib,nb,hA,hg,hD⟩:=h
 exact(drop_at id hT w hA hid).mono fun e w' ht=>fD.of hM hi hg hD ht
theorem qI (h:f_ o i w p T) (hT:dG T):Calls Tryz.prog 31 #[ptr p] w (zV w (iY T)):=by
 obtain⟨g,D,mb,ib,nb,hA,hg,hD⟩:=h
 exact La w hA hT
open Classical in
theorem Ce {W w w':World} {o:Mark} (hM:Marks W o w) (j:Nat) (G:Nat→Prop) (hG:∀b,G b→w.heap.size≤b∧b<w'.heap.size) (hb:Below w.heap.size w w'):∃o',Step o (fun i=>i=j) w o' w'∧(∀b,G b→o' b=j)∧(∀b,¬G b→o' b=o b):=by
 obtain⟨o',ho⟩:∃o':Mark,∀b,o' b=if G b then j else o b:=⟨_,fun _=>rfl⟩
 refine⟨o',⟨fun b hb'=> ?_,fun b hb' hn=> ?_,(Keeps.below hb).mono fun x hx hx'=>absurd hx (by omega)⟩,fun b hb'=>by rw[ho,if_pos hb'],fun b hb'=>by rw[ho,if_neg hb']⟩
 ·rw[ho,if_neg (fun h=>by have:=hG b h;omega)]
 ·by_cases h:G b
  ·rw[ho,if_pos h];exact⟨rfl,(hG b h).2⟩
  ·rw[ho,if_neg h]at hn;have:=(hM.new b hn).2;omega
end
section
variable {W w:World} {o:Mark} {i p:Nat} {T:aF}
end
def nP (o:Mark) (j:Nat) (w:World) (r:Nat) (T:aF):Prop:=∃F,gX F w r T∧o r=j∧∀b,F b→b≠r→o b=0
theorem nP.step {o o':Mark} {I:Nat→Prop} {j:Nat} {w w':World} {r:Nat} {T:aF} (h:nP o j w r T) (hi:¬I 0) (hij:¬I j) (hs:Step o I w o' w'):nP o' j w' r T:=by
 obtain⟨F,hR,hr,hF⟩:=h
 refine⟨F,hR.keeps hs.keep fun b hb hI=> ?_,(hs.old r (hR.low r hR.own)).trans hr,fun b hb hbr=>(hs.old b (hR.low b hb)).trans (hF b hb hbr)⟩
 by_cases hbr:b=r
 ·subst hbr
  exact hij (hr▸hI)
 ·exact hi (hF b hb hbr▸hI)
theorem nP.grow {o:Mark} {j:Nat} {w w':World} {r:Nat} {T:aF} (h:nP o j w r T) (hb:Below w.heap.size w w'):nP o j w' r T:=by
 obtain⟨F,hR,hr,hF⟩:=h
 exact⟨F,hR.below hb (Nat.le_refl _),hr,hF⟩
def RO (o:Mark) (j:Nat) (w:World) (r:Nat) (T':aF) (v:Value) (e:Ending) (w':World):Prop:=
 e= .returned v∧∃o',Step o (fun k=>k=j) w o' w'∧nP o' j w' r T'
theorem RO.of {W w w':World} {o:Mark} {j r:Nat} {T':aF} {F:Nat→Prop} {v:Value} {e:Ending} (hM:Marks W o w) (Za:F r) (hr:o r=j) (hF:∀b,F b→b≠r→o b=0) (h:bC F w r T' v e w'):RO o j w r T' v e w':=by
 refine⟨h.1,o,⟨fun _ _=>rfl,fun b hb hn=> ?_,h.2.1.mono fun x _ hx=> ?_⟩,_,h.2.2,hr,fun b hb hbr=> ?_⟩
 ·have:=(hM.new b hn).2
  omega
 ·show o x=j
  rw[hx];exact hr
 ·rcases hb with hb|hb
  ·exact hF b hb hbr
  ·exact Decidable.byContradiction fun h0=>by have:=(hM.new b h0).2;omega
section
variable {W w:World} {o:Mark} {j r:Nat} {T:aF}
theorem Li {S:Nat→Prop} (h:nP o j w r T) (hM:Marks W o w) (hT:dG T) (a:Option Addr) (n0 c0:Nat) (ls:List Nm) (kind:Int) (hS:aH S w a n0 (ls.map strOf)) (hc:n0≤c0) (jS:n0≤1000000):
  Calls Tryz.prog 13 #[ptr r, .slice a n0 c0, .int .i64 kind] w (RO o j w r (cu T ls kind).2 (.tuple #[.int .i64 (cu T ls kind).1.1, .int .i64 (cu T ls kind).1.2])):=by
 obtain⟨F,hR,hr,hF⟩:=h
 exact(zu a n0 c0 ls kind w hR hT hS hc jS).mono fun e w' ht=>RO.of hM hR.own hr hF ht
theorem Lj {S S':Nat→Prop} (h:nP o j w r T) (hM:Marks W o w) (hT:dG T) (a:Option Addr) (n c:Nat) (ls:List Nm) (a':Option Addr) (n' c':Nat) (ls':List Nm) (hS:aH S w a n (ls.map strOf)) (hS':aH S' w a' n' (ls'.map strOf)) (hc':n'≤c') (uj:n'≤1000000):
  Calls Tryz.prog 17 #[ptr r, .slice a n c, .slice a' n' c'] w (RO o j w r (dz T ls ls').2 (.int .i64 (dz T ls ls').1)):=by
 obtain⟨F,hR,hr,hF⟩:=h
 exact(ze a n c ls a' n' c' ls' w hR hT hS hS' hc' uj).mono fun e w' ht=>RO.of hM hR.own hr hF ht
theorem Gi {S:Nat→Prop} (h:nP o j w r T) (hM:Marks W o w) (hT:dG T) (a:Option Addr) (n c:Nat) (ls:List Nm) (hS:aH S w a n (ls.map strOf)) (hc:n≤c) (jS:n≤1000000):
  Calls Tryz.prog 19 #[ptr r, .slice a n c] w (RO o j w r (bB T ls).2 (.int .i64 (bB T ls).1)):=by
 obtain⟨F,hR,hr,hF⟩:=h
 exact(uQ a n c ls w hR hT hS hc jS).mono fun e w' ht=>RO.of hM hR.own hr hF ht
theorem Jr {S:Nat→Prop} (h:nP o j w r T) (hM:Marks W o w) (hT:dG T) (a:Option Addr) (n c:Nat) (ls:List Nm) (hS:aH S w a n (ls.map strOf)) (hc:n≤c) (jS:n≤1000000):
  Calls Tryz.prog 15 #[ptr r, .slice a n c] w (RO o j w r (bU T ls).2 (.int .i64 (bU T ls).1)):=by
 obtain⟨F,hR,hr,hF⟩:=h
 exact(wR a n c ls w hR hT hS hc jS).mono fun e w' ht=>RO.of hM hR.own hr hF ht
theorem Gj {S S':Nat→Prop} (h:nP o j w r T) (hM:Marks W o w) (hO:fU T) (a:Option Addr) (n c:Nat) (ls:List Nm) (a':Option Addr) (n' c':Nat) (ls':List Nm) (hS:aH S w a n (ls.map strOf)) (hS':aH S' w a' n' (ls'.map strOf)) (hc:n≤c) (jS:n≤1000000) (hc':n'≤c') (uj:n'≤1000000):
  Calls Tryz.prog 94 #[ptr r, .slice a n c, .slice a' n' c'] w (RO o j w r (aT T ls ls').2 (.int .i64 (aT T ls ls').1)):=by
 obtain⟨F,hR,hr,hF⟩:=h
 exact(uR a n c ls a' n' c' ls' w hR hO hS hS' hc jS hc' uj).mono fun e w' ht=>RO.of hM hR.own hr hF ht
theorem Gl {S:Nat→Prop} (h:nP o j w r T) (hM:Marks W o w) (hj:j≠0) (hT:dG T) (id:Int) (ab:Option Addr) (nb cb:Nat) (bs:List UInt8) (hbs:av S w ab nb (bs.map bv)) (hSr:∀b,S b→o b=0) (hnb:nb≤1000000):
  Calls Tryz.prog 22 #[ptr r, .int .i64 id, .slice ab nb cb] w (RO o j w r (bK T id bs).2 (.int .i64 (bK T id bs).1)):=by
 obtain⟨F,hR,hr,hF⟩:=h
 exact(uU id ab nb cb bs w hR hT hbs (fun b hb e=>by have:=hSr b hb;rw[e,hr]at this;exact hj this) hnb).mono fun e w' ht=>RO.of hM hR.own hr hF ht
theorem Ll (h:nP o j w r T) (hM:Marks W o w) (hT:dG T) (id aK:Int) (ht0:0≤aK∧aK≤18446744073709551615):
  Calls Tryz.prog 24 #[ptr r, .int .i64 id, .int .u64 aK] w (RO o j w r (dR T id aK).2 (.int .i64 (dR T id aK).1)):=by
 obtain⟨F,hR,hr,hF⟩:=h
 exact(zl id aK w hR hT ht0).mono fun e w' ht=>RO.of hM hR.own hr hF ht
theorem Lm (h:nP o j w r T) (hM:Marks W o w) (hT:dG T) (id aK:Int) (ht0:0≤aK∧aK≤18446744073709551615):
  Calls Tryz.prog 26 #[ptr r, .int .i64 id, .int .u64 aK] w (RO o j w r (dL T id aK).2 (.int .i64 (dL T id aK).1)):=by
 obtain⟨F,hR,hr,hF⟩:=h
 exact(zi id aK w hR hT ht0).mono fun e w' ht=>RO.of hM hR.own hr hF ht
theorem Lp (h:nP o j w r T) (hM:Marks W o w) (hT:dG T) (id:Int):
  Calls Tryz.prog 30 #[ptr r, .int .i64 id] w (RO o j w r (dM T id).2 (.int .i64 (dM T id).1)):=by
 obtain⟨F,hR,hr,hF⟩:=h
 exact(zn id w hR hT).mono fun e w' ht=>RO.of hM hR.own hr hF ht
theorem Cg (hM:Marks W o w) (j:Nat):Calls Tryz.prog 11 #[] w fun e w'=>∃r o',e= .returned (ptr r)∧Step o (fun k=>k=j) w o' w'∧nP o' j w' r kV:=by
 refine(BX w).mono fun e w' ⟨r,he,hR,hb⟩=> ?_
 obtain⟨o',hs,h1,h2⟩:=Ce hM j (fun b=>b=r) (fun b hb'=>by subst hb';exact hR.own) hb
 refine⟨r,o',he,hs,_,hR,h1 r rfl,fun b hb' hbr=> ?_⟩
 rw[h2 b hbr]
 exact Decidable.byContradiction fun h0=>by have:=(hM.new b h0).2;omega
end
def ou (l:List UInt8):Int:=l.foldl (fun n c=>n*256+(c.toNat:Int)) 0
theorem sQ (l:List UInt8) (c:UInt8):ou (l++[c])=ou l*256+(c.toNat:Int):=by unfold ou;rw[List.foldl_append];rfl
theorem Js:ou []=0:=rfl
theorem zA {α:Type} (l:List α) (k:Nat) (h:l.length=k+1):∃l' c,l=l'++[c]∧l'.length=k:=by
 have hne:l≠[]:=fun e=>by rw[e]at h;cases h
 exact⟨l.dropLast,l.getLast hne,(List.dropLast_concat_getLast hne).symm,by rw[List.length_dropLast];omega⟩
theorem ow:∀(k:Nat) (l:List UInt8),l.length=k→0≤ou l∧ou l<256^k
 |0,l,h=>by rw[List.eq_nil_of_length_eq_zero h];simp[ou]
 |k+1,l,h=>by
  obtain⟨l',c,rfl,h'⟩:=zA l k h
  obtain⟨h1,h2⟩:=ow k l' h'
  have hc:(c.toNat:Int)≤255:=by have:=c.toNat_lt;omega
  rw[sQ,Int.pow_succ]
  generalize (256:Int)^k=P at*
  omega
theorem xw:∀(k:Nat) (n:Int),0≤n→iL n (k+1)=iL (n/256) k++[UInt8.ofNat ((n%256).toNat)]
 |0,n,h0=>by
  show[UInt8.ofNat ((n/2^(8*0)).toNat%256)]=[UInt8.ofNat ((n%256).toNat)]
  congr 2
  simp
  omega
 |k+1,n,h0=>by
  have h:=xw k n h0
  rw[iL,h]
  show _=(UInt8.ofNat ((n/256/2^(8*k)).toNat%256)::iL (n/256) k)++_
  rw[List.cons_append]
  congr 4
  rw[Int.ediv_ediv_of_nonneg (by decide),show(2:Int)^(8*(k+1))=256*2^(8*k)by rw[Nat.mul_add,Int.pow_add,Int.mul_comm];rfl]
theorem EO:∀(k:Nat) (n:Int),0≤n→n<256^k→ou (iL n k)=n
 |0,n,h0,h1=>by simp only[Int.pow_zero]at h1;simp only[iL,Js];omega
 |k+1,n,h0,h1=>by
  rw[xw k n h0,sQ,EO k (n/256) (by omega) (by rw[Int.pow_succ]at h1;generalize (256:Int)^k=P at*;omega)]
  have:(UInt8.ofNat (n%256).toNat).toNat=(n%256).toNat:=by simp;omega
  rw[this];omega
theorem EP:∀(k:Nat) (l:List UInt8),l.length=k→iL (ou l) k=l
 |0,l,h=>(List.eq_nil_of_length_eq_zero h).symm
 |k+1,l,h=>by
  obtain⟨l',c,rfl,h'⟩:=zA l k h
  obtain⟨h1,h2⟩:=ow k l' h'
  have hc:(c.toNat:Int)≤255:=by have:=c.toNat_lt;omega
  rw[sQ,xw _ _ (by omega),show(ou l'*256+(c.toNat:Int))/256=ou l' by omega,EP k l' h',show((ou l'*256+(c.toNat:Int))%256).toNat=c.toNat by omega]
  simp
abbrev Rd:=List UInt8×Int
def jl (s:Rd) (n:Int):List UInt8×Rd:=
 if s.2≠0 then([],s)else if (s.1.length:Int)<n then([],(s.1,10))else if n<1 then([],s)else(s.1.take n.toNat,(s.1.drop n.toNat,0))
def bQ (s:Rd) (k:Nat):Int×Rd:=(ou (jl s k).1,(jl s k).2)
def oP (s:Rd):Bool×Rd:=(decide ((bQ s 1).1=1),if 1<(bQ s 1).1 then((bQ s 1).2.1,12)else(bQ s 1).2)
def aP (s:Rd):List UInt8×Rd:=jl (bQ s 2).2 (bQ s 2).1
def qd (s:Rd):Nat:=if s.2≠0 then 0 else s.1.length
def nQ (s:Rd):Int:=if s.2=0∧0<s.1.length then 11 else s.2
theorem zB {s:Rd} (h:s.2≠0) (n:Int):jl s n=([],s):=by unfold jl;rw[if_pos h]
theorem ER {s:Rd} {n:Int} (h0:0≤n) (h:(jl s n).2.2=0):s.2=0∧s.1=(jl s n).1++(jl s n).2.1∧((jl s n).1.length:Int)=n:=by
 by_cases h1:s.2≠0
 ·rw[zB h1]at h;exact absurd h h1
 ·have h1:s.2=0:=Decidable.not_not.1 h1
  unfold jl at h⊢
  rw[if_neg (by simp[h1])]at h⊢
  by_cases h2:(s.1.length:Int)<n
  ·rw[if_pos h2]at h;cases h
  ·rw[if_neg h2]at h⊢
   by_cases h3:n<1
   ·rw[if_pos h3]
    exact⟨h1,rfl,by simp;omega⟩
   ·rw[if_neg h3]
    refine⟨h1,(List.take_append_drop _ _).symm,?_⟩
    simp only[List.length_take]
    omega
theorem Ch (l r:List UInt8) (n:Int) (hn:n=l.length):jl (l++r,0) n=(l,(r,0)):=by
 subst hn
 unfold jl
 rw[if_neg (by simp),if_neg (by simp only[List.length_append];omega)]
 by_cases h:(l.length:Int)<1
 ·have:l=[]:=List.eq_nil_of_length_eq_zero (by omega)
  subst this;rw[if_pos (by simp)];rfl
 ·rw[if_neg h];simp
theorem jr {s:Rd} {k:Nat} (h:(bQ s k).2.2=0):s.2=0∧s.1=iL (bQ s k).1 k++(bQ s k).2.1∧0≤(bQ s k).1∧(bQ s k).1<256^k:=by
 obtain⟨h1,h2,h3⟩:=ER (s:=s) (n:=k) (by omega) h
 have h4:(jl s k).1.length=k:=by omega
 refine⟨h1,?_,ow k _ h4⟩
 unfold bQ
 rw[EP k _ h4];exact h2
theorem iP (k:Nat) (n:Int) (r:List UInt8) (h0:0≤n) (h1:n<256^k):bQ (iL n k++r,0) k=(n,(r,0)):=by
 unfold bQ
 rw[Ch (iL n k) r k (by rw[fu]),EO k n h0 h1]
theorem fE (s:Rd) (k:Nat):0≤(bQ s k).1∧(bQ s k).1<256^k:=by
 by_cases h:(bQ s k).2.2=0
 ·exact(jr h).2.2
 ·have hp:(0:Int)<256^k:=Int.pow_pos (by decide)
  have:(jl s k).1=[]:=by
   unfold bQ at h
   unfold jl at h⊢
   split
   ·rfl
   ·rename_i h1
    rw[if_neg h1]at h
    split
    ·rfl
    ·rename_i h2
     rw[if_neg h2]at h
     split
     ·rfl
     ·rename_i h3;rw[if_neg h3]at h;exact absurd rfl h
  unfold bQ
  rw[this]
  exact⟨Int.le_refl _,hp⟩
theorem Jt {s:Rd} (h:(oP s).2.2=0):s.2=0∧s.1=oO (oP s).1++(oP s).2.1:=by
 unfold oP at h⊢
 by_cases h1:1<(bQ s 1).1
 ·rw[if_pos h1]at h;cases h
 ·rw[if_neg h1]at h⊢
  obtain⟨e1,e2,e3,e4⟩:=jr h
  refine⟨e1,?_⟩
  unfold oO
  by_cases h2:(bQ s 1).1=1
  ·rw[h2]at e2;simp only[h2,decide_true,if_true];exact e2
  ·have h3:(bQ s 1).1=0:=by omega
   rw[h3]at e2
   simp only[h3]
   exact e2
theorem Gm (f:Bool) (r:List UInt8):oP (oO f++r,0)=(f,(r,0)):=by
 unfold oP oO
 cases f
 ·rw[iP 1 _ r (by decide) (by decide)];rfl
 ·rw[iP 1 _ r (by decide) (by decide)];rfl
theorem nR {s:Rd} (h:(aP s).2.2=0):s.2=0∧s.1=uy (aP s).1++(aP s).2.1∧(aP s).1.length≤65535:=by
 have hr:=fE s 2
 unfold aP at h⊢
 obtain⟨h1,h2,h3⟩:=ER hr.1 h
 obtain⟨h4,h5,h6,h7⟩:=jr h1
 refine⟨h4,?_,by have:(256:Int)^2=65536:=rfl;omega⟩
 unfold uy
 rw[h3,List.append_assoc,←h2]
 exact h5
theorem rG (l r:List UInt8) (h:l.length≤65535):aP (uy l++r,0)=(l,(r,0)):=by
 unfold aP uy
 rw[List.append_assoc,iP 2 _ _ (by omega) (by have:(256:Int)^2=65536:=rfl;omega)]
 exact Ch l r _ rfl
end Go.Proofs.YtohpcppeajijnaaGreat
