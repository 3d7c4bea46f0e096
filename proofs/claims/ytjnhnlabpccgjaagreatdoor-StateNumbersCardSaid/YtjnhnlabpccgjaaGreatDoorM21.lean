/- (*tree -/
import Derived.Test.YtjnhnlabpccgjaaGreatDoorM18
import Derived.Test.YtjnhnlabpccgjaaGreatDoorM20
import Derived.Test.YtjnhnlabpccgjaaGreatDoorM17
import Derived.Test.YtjnhnlabpccgjaaGreatDoorM16
import Derived.Test.YtjnhnlabpccgjaaGreatDoorM08
set_option maxRecDepth 100000
set_option maxHeartbeats 64000000
set_option linter.all false
namespace Go.Proofs.YtjnhnlabpccgjaaGreatDoor
open Go.ChangeShapes Go.WideShapes Go.ChangeAt Go.RowKit
section
variable{g:Nat→Own}{D:Nat→Prop}{p mb:Nat}{ib nb:Int→Nat}{T:aL}
theorem lV.other{B x:Nat}{w w':World}{v v':Value}{bs:List UInt8}(h:lV B w x v bs v' w'){b:Nat}(hb:b<w.heap.size)(hx:b≠x)(hv:v.ownBlock≠some b):w'.heap[b]? =w.heap[b]? ∧v'.ownBlock≠some b:=
 ⟨h.2.1.block b hb fun hf=>hf.elim hx hv,fun he=>by
  rcases h.2.2 b he with h1|h1
  ·exact hv h1
  ·omega⟩
theorem JC(w:World)(l:List UInt8)(hl:l.length≤1000):∃cap w1,(convert 9 28 (.string (strOf l))).run Tryz.prog w= .ok (.slice (some ⟨w.heap.size,0,none⟩) l.length cap) w1∧Below w.heap.size w w1∧w.heap.size<w1.heap.size∧l.length≤cap∧ah (fun b=>b=w.heap.size) w1 (some ⟨w.heap.size,0,none⟩) l.length (l.map bv):=by
 have h:=Lib.run_convert_string_bytes (P:=Tryz.prog) w 9 28 5 (strOf l) abj Tryz.underlying28 abr;rw[fu]at h;refine⟨_,_,h,⟨rfl,rfl,rfl,by rw[Lib.bytesWorld_size];omega,fun k hk=>Lib.bytesWorld_at_old w _ _ k hk⟩,by rw[Lib.bytesWorld_size];omega,grownCap_ge _ _ _ _,⟨by simp,by unfold maxLen;omega,fun h0=>⟨w.heap.size,0,rfl,rfl,by rw[Lib.bytesWorld_size];omega,fun i hi=> ?_⟩⟩⟩;rw[Nat.zero_add,Lib.bytesWorld_cell w _ _ i (by rw[fu];exact hi)];have e1:(strOf l).data.toList=l:=rfl;rw[e1,List.getElem?_map,List.getElem?_eq_getElem hi,aaB,List.getElem?_eq_getElem hi];rfl
structure ItemF(w:World)(D:Nat→Prop)(p mb:Nat)(ib nb:Nat)(k:Int)(x:bP)(T':List (Int×Value))(a:Option Addr)(c:Nat):Prop where
 c0:w.cell? ⟨ib,0,none⟩=some (.int .i64 k)
 c1:w.cell? ⟨ib,1,none⟩=some (.int .i64 x.kind)
 c2:w.cell? ⟨ib,2,none⟩=some (.int .i64 x.links)
 c3:w.cell? ⟨ib,3,none⟩=some (.int .i64 x.b.length)
 c4:w.cell? ⟨ib,4,none⟩=some (.int .u64 x.aA)
 c5:w.cell? ⟨ib,5,none⟩=some (.bool x.closed)
 c6:w.cell? ⟨ib,6,none⟩=some (.slice a x.b.length c)
 c7:w.cell? ⟨ib,7,none⟩=some (eY x nb)
 row:ah D w a x.b.length (x.b.map bv)
 head:w.cell? ⟨p,0,none⟩=some (.map (some mb))
 map:MapAt bY w mb T'
 names:x.kind=2→MapAt dZ w nb (bW x)
theorem LU{w:World}(h:aO g D w p mb ib nb T){k:Int}{x:bP}(hx:aj k T=some x):∃a c,x.b.length≤c∧∀w',Below w.heap.size w w'→ItemF w' D p mb (ib k) (nb k) k x (T.map fun q=>(q.1,ptr (ib q.1))) a c:=by
 obtain⟨⟨a,c,hblk,hcap,hrow⟩,_⟩:=h.item k x hx;have hiw:=(iA.1 hblk).1;refine⟨a,c,hcap.1,fun w' hb=> ?_⟩;have h':=h.below hb acC;obtain⟨c0,c1,c2,c3,c4,c5,c7,_⟩:=(h'.item k x hx).cell;refine⟨c0,c1,c2,c3,c4,c5,?_,c7,hrow.below hb acC,h'.cell.1,h'.map,fun hk=>(h'.item k x hx).names hk⟩;rw[hb.cell (p:=⟨ib k,6,none⟩) hiw];simp only[World.cell?,hblk];rfl
theorem Xb(w:World)(h:aO g D w p mb ib nb T)(hT:dG T):Calls Tryz.prog 34 #[ptr p] w (tT w (gV T)):=by
 have tY:=acA h;have HT:=acA hT;have hlen:=hT.len;obtain⟨N,hN⟩:∃N,N=T.length:=⟨_,rfl⟩;have xP:=acA hN;rw[←hN]at hlen;clear h hT hN;go_enter Tryz.func34,Tryz.ntmps34;go_wp2_with fail;refine(oH w).mono ?_;rintro e w1 ⟨rfl,hW1,hb1⟩;have HW1:=acA hW1;have HB1:=acA hb1;have h1:=tY.o.below hb1 acC;have hs1:=hb1.size;obtain⟨hc0,hpw,hmw⟩:=h1.cell;have pz:=acA h1.map;have jI:=acA (nZ hW1 (N:Int) (by omega) (by omega) (by simp));clear h1 hW1 hb1;go_wp2_with (at_len;refine m_ bY rfl _ 104 102 rfl Tryz.underlying104 rfl pz.o ?_;rw[List.length_map,←xP.o]);refine jI.o.mono ?_;rintro e w2 ⟨rfl,v2,hm2⟩;have HW2:=acA hm2.1;have HB2:=acA (HB1.o.trans (hm2.low HW1.o));have Di:=acA (Gu w2 (tY.o.below HB2.o acC) (by rw[←xP.o];omega));clear hm2 jI hc0 hpw hmw pz HB1;go_wp2_with fail;refine Di.o.mono ?_;rintro e w3 ⟨a3,c3,rfl,hc3,hr3,hb3⟩;have hil:(lJ T).length=N:=by unfold lJ;rw[List.length_map,xP.o]
 rw[hil]at hc3 hr3⊢;have HW3:=acA (HW2.o.below hb3);have HB3:=acA (HB2.o.trans (hb3.mono HB2.o.size));have HR3:=acA hr3;have Y8:acB (∀b,w2.heap.size≤b→b≠w.heap.size∧v2.ownBlock≠some b):=fun b hb=>⟨by have:=HW2.o.lt;omega,fun he=>by have:=kR HW2.o.own b he;omega⟩;clear hb3 hr3 Di HW2;go_wp2_with fail
 go_loopw [22] (fun iv wr=>∃(i:Nat) (v':Value),i≤N∧iv= .int .i64 i∧lV w.heap.size w3 w.heap.size v2 (fT (N:Int) 2++(T.take i).flatMap fun q=>rT q.1 q.2) v' wr) (fun iv _=>N-(intOf iv).toNat)
 case atStart=>exact⟨0,v2,by omega,rfl,by simpa using lV.refl HW3.o⟩
 case round=>
  obtain⟨i,v',hi,rfl,hm⟩:=hrel;have HM:=acA hm;have JD:=acA (HB3.o.trans (hm.low HW3.o));clear hm;by_cases hin:i<N
  ·have hd1:decide ((i:Int)<(N:Int))=true:=by simpa using hin
   obtain⟨e,he⟩:∃e,T[i]? =some e:=⟨_,List.getElem?_eq_getElem (by have:=xP.o;omega)⟩;obtain⟨k,x⟩:=e;have hmem:(k,x)∈T:=aax he;have hx:aj k T=some x:=cK fC HT.o.sorted hmem;obtain⟨ab,cb,hcb,hF⟩:=LU tY.o hx;have O1:=acA (HT.o.each k x hx);have rY:=HT.o.ids k x hx;have hok:bY.ok k:=jU rY.1 (by omega);have HG:acB (aj k (T.map fun q=>(q.1,ptr (ib q.1)))=some (ptr (ib k))):=by rw[fG,hx];rfl
   obtain⟨b3,o3,rfl,Pk,hb3w,hcc⟩:=HR3.o.at_ (by omega);have hob:=Y8.o b3 Pk.1;have ck:wr.cell? ⟨b3,o3+i,none⟩=some (.int .i64 k):=by
    rw[Pe (w:=w3) (w':=wr) (a:=⟨b3,o3+i,none⟩) (HM.o.other hb3w hob.1 hob.2).1,hcc i hin];unfold lJ;rw[List.getElem?_map,List.getElem?_map,he];rfl
   have FR:=hF wr JD.o;have HF:=acA hF;have HX:=acA hx;have HE:=acA he;have c0:=FR.c0;have c1:=FR.c1;have c2:=FR.c2;have c3':=FR.c3;have c4:=FR.c4;have c5:=FR.c5;have p0:=FR.head;have jX:=acA FR.map;have hen:=Lr k x O1.o rY.1 rY.2 wr;unfold j_ at hen;have Wh:=acA hen;have hi0:(0:Int)≤(i:Int):=by omega
   have hiN:(i:Int)<(N:Int):=by omega
   clear hx he hmem hF FR hen hcc;go_wp2_with (first|(at_lookup;refine aY bY rfl _ _ 104 102 rfl Tryz.underlying104 (Tryz.bF _) rfl jX.o k rfl hok ?_;rw[HG.o]));refine Wh.o.mono ?_;rintro e w4 ⟨ae,ne,ce,rfl,hce,hre,hbe⟩;have hne:ne=16:=by have h9:=hre.length;rw[List.length_map,nJ]at h9;omega
   subst hne;obtain⟨S9,BN⟩:∃S9,S9=(fT (N:Int) 2++(T.take i).flatMap fun q=>rT q.1 q.2):=⟨_,rfl⟩;rw[←BN]at HM;have hl0:S9.length≤5800000:=by
    have h9:=qB HT.o (T.take i) fun q hq=>List.mem_of_mem_take hq;rw[aan]at h9;rw[BN,List.length_append,bT];omega
   have Y9:=acA BN;have Xc:=HM.o.1.below hbe;have O6:=acA Xc;have dY:=acA (JD.o.trans (hbe.mono JD.o.size));have Y_:=HM.o.1.lt;have Pm:=acA (yS Xc ae 16 ce (vI k x) hre (fun b hb=>⟨by omega,fun he=>by have:=kR HM.o.1.own b he;omega⟩) hce (by omega) (by omega));have z_:=acA (HM.o.below hbe);clear BN Xc hre hbe hce Wh ck c0 c1 c2 c3' c4 c5 p0 jX;go_wp2_with fail;refine Pm.o.mono ?_;rintro e w5 ⟨rfl,v5,Ls⟩;have HM5:=acA (z_.o.trans Ls);have fH:=acA (dY.o.trans ((Ls.low O6.o).mono acC));have F5:=HF.o w5 fH.o;have c6:=F5.c6;have hbl:=O1.o.size;have xS:=acA tY.o.rX;have HY2:=acA (yS Ls.1 ab x.b.length cb x.b F5.row (fun b hb=>⟨by have:=xS.o b hb;omega,fun he=>by have:=bA Ls.1.own b he;have:=xS.o b hb;omega⟩) hcb (by simp only[List.length_append,nJ,bT];omega) (by omega));clear Ls F5 Pm O6 dY z_;go_wp2_with fail;refine HY2.o.mono ?_;rintro e w6 ⟨rfl,v6,Sk⟩;have mM:=acA (fH.o.trans (Sk.low HM5.o.1));have SL:=acA (HM5.o.trans Sk);clear Sk HY2 c6 HM5 fH;have tX:=HT.o.few HX.o;have F6:=HF.o w6 mM.o;have c7:=F6.c7;obtain⟨L,hL⟩:∃L,L=x.names.length:=⟨_,rfl⟩;have FH:=acA hL;have hlb:(S9++(fT ((16:Nat):Int) 2++vI k x)++(fT (x.b.length:Int) 2++x.b)).length≤5900000:=by simp only[List.length_append,nJ,bT];omega
   have LP:=acA (nZ SL.o.1 (L:Int) (by omega) (by omega) (by omega));by_cases hk2:x.kind=2
   ·have e2:eY x (nb k)= .map (some (nb k)):=if_pos hk2;rw[e2]at c7;have HN:=acA (F6.names hk2);have Je:=acA hk2;clear F6 hk2 e2 hL;go_wp2_with (at_len;refine m_ dZ rfl _ 136 3 rfl aam rfl HN.o ?_;rw[bW,List.length_map,←FH.o]);refine LP.o.mono ?_;rintro e w7 ⟨rfl,v7,Sl⟩;have EJ:=mM.o.trans (Sl.low SL.o.1);have wZ:=acA EJ;have Wd:=acA (SL.o.trans Sl);have e2:eY x (nb k)= .map (some (nb k)):=if_pos Je.o;have c7:=(HF.o w7 EJ).c7;have hkk:=Tryz.GJ (some (nb k)) w7;have hso:=sorted_at k x w7 (tY.o.below EJ acC) HT.o HX.o;rw[e2]at c7 hso;have hll:(x.names.map (·.1)).length=L:=by rw[List.length_map,FH.o]
    have ZT:=acA hso;have NS:=wall w7 (.cells #[.map (some (nb k))] 136);clear Sl EJ e2 hso LP SL mM HN;go_wp2_with (go_at_call 93;refine hkk.mono ?_;rintro e w' ⟨rfl,rfl⟩);refine ZT.o.mono ?_;rintro e w8 ⟨a8,c8,rfl,hc8,IG,sP⟩;rw[hll]at IG hc8⊢;have hb78:Below w7.heap.size w7 w8:=NS.trans (sP.mono NS.size);have rD:=acA (wZ.o.trans (hb78.mono wZ.o.size));have Wi:=acA (Wd.o.below hb78);have NT:=acA IG;have zL:acB (∀b,w7.heap.size<b→b≠w.heap.size∧v7.ownBlock≠some b):=fun b hb=>⟨by have:=Wd.o.1.lt;omega,fun he=>by have:=kR Wd.o.1.own b he;omega⟩;have hsz8:(w7.alloc (.cells #[.map (some (nb k))] 136)).heap.size=w7.heap.size+1:=by simp
    clear hb78 sP NS hkk IG ZT wZ c7;go_wp2_with fail
    go_loopw [63] (fun jv wr2=>∃(j:Nat) (vj:Value),j≤L∧jv= .int .i64 j∧lV w.heap.size w8 w.heap.size v7 (S9++(fT ((16:Nat):Int) 2++vI k x)++(fT (x.b.length:Int) 2++x.b)++fT (L:Int) 2++(x.names.take j).flatMap V8) vj wr2) (fun jv _=>L-(intOf jv).toNat)
    case atStart=>exact⟨0,v7,by omega,rfl,by simpa using lV.refl Wi.o.1⟩
    case round=>
     obtain⟨j,vj,hj,rfl,hmj⟩:=hrel;have HMJ:=acA hmj;have HBJ:=acA (rD.o.trans (hmj.low Wi.o.1));clear hmj;by_cases hjL:j<L
     ·have hd2:decide ((j:Int)<(L:Int))=true:=by simpa using hjL
      obtain⟨en,hen⟩:∃en,x.names[j]? =some en:=⟨_,List.getElem?_eq_getElem (by have:=FH.o;omega)⟩;obtain⟨nm,id⟩:=en;have NU:(nm,id)∈x.names:=aax hen;have hgn:=cK CF O1.o.sorted NU;have hg16:nm.length≤16:=rU (O1.o.good _ NU);have hled:=HT.o.leads k x HX.o _ NU;obtain⟨y,hy⟩:=aaf.1 hled.1;have hid2:0≤id∧id≤65535:=HT.o.ids _ _ hy;obtain⟨b8,o8,s,rfl,S_,hb8w,hs,hsl,hc8c⟩:=NT.o.cell j hjL;rw[List.getElem?_map,List.getElem?_map,hen]at hs;obtain rfl:strOf nm=s:=by simpa using hs
      have ho8:=zL.o b8 (by omega);have cn:wr.cell? ⟨b8,o8+j,none⟩=some (.string (strOf nm)):=(Pe (w:=w8) (w':=wr) (a:=⟨b8,o8+j,none⟩) (HMJ.o.other hb8w ho8.1 ho8.2).1).trans hc8c;obtain⟨cn9,wc,hrun,hbc,hltc,Za,hcells⟩:=JC wr nm (by omega);have hrow:ah (fun b=>b=wr.heap.size) wc (some ⟨wr.heap.size,0,none⟩) nm.length (nm.map bv):=hcells;have hWC:=HMJ.o.1.below hbc;have hxw:=HMJ.o.1.lt;have hlj:(S9++(fT ((16:Nat):Int) 2++vI k x)++(fT (x.b.length:Int) 2++x.b)++fT (L:Int) 2++(x.names.take j).flatMap V8).length≤6000000:=by
       have h9:=GK (x.names.take j) fun e he=>rU (O1.o.good e (List.mem_of_mem_take he));rw[aan]at h9;simp only[List.length_append,nJ,bT]at hlb⊢;omega
      have HY3:=acA (yS hWC (some ⟨wr.heap.size,0,none⟩) nm.length cn9 nm hrow (fun b hb=>⟨by rw[hb];omega,fun he=>by have:=kR HMJ.o.1.own b he;omega⟩) Za (by omega) (by omega));have HMC:=acA (HMJ.o.below hbc);have HBC:=acA (HBJ.o.trans (hbc.mono HBJ.o.size));have I9:=acA hgn;have HEN2:=acA hen;have hj0:(0:Int)≤(j:Int):=by omega
      have hL4:L≤4096:=by have:=FH.o;omega
      have ew:IntKind.i64.wrap ((j:Int)+1)=(j:Int)+1:=aak _ (by omega);have hjL':(j:Int)<(L:Int):=by omega
      clear hen NU hgn hled hy hs hsl hc8c hrow hWC hbc hcells;go_wp2_with fail;refine HY3.o.mono ?_;rintro e Dj ⟨rfl,v10,hm10⟩;have HM10:=acA (HMC.o.trans hm10);have Ta:=acA (HBC.o.trans (hm10.low HMC.o.1));have F10:=HF.o Dj Ta.o;have c7:=F10.c7;have e2:eY x (nb k)= .map (some (nb k)):=if_pos Je.o;rw[e2]at c7;have HN10:=acA (F10.names Je.o);have HG10:acB (aj nm (bW x)=some (.int .i64 id)):=by rw[fP,I9.o];rfl
      have hnml:nm.length≤maxLen:=by unfold maxLen;omega
      have n_:=acA (nZ HM10.o.1 id hid2.1 (by omega) (by simp only[List.length_append,nJ,bT]at hlj⊢;omega));clear hm10 F10 e2 hrun;go_wp2_with (at_lookup;refine aY dZ rfl _ _ 136 3 rfl aam (Tryz.iY _) rfl HN10.o nm rfl hnml ?_;rw[HG10.o]);refine n_.o.mono ?_;rintro e Xd ⟨rfl,v11,hm11⟩;have hM11:=HM10.o.trans hm11;have hby:S9++(fT ((16:Nat):Int) 2++vI k x)++(fT (x.b.length:Int) 2++x.b)++fT (L:Int) 2++(x.names.take j).flatMap V8++(fT (nm.length:Int) 2++nm)++fT id 2=S9++(fT ((16:Nat):Int) 2++vI k x)++(fT (x.b.length:Int) 2++x.b)++fT (L:Int) 2++(x.names.take (j+1)).flatMap V8:=by
       rw[abL,HEN2.o,aaX];simp[V8,sN,aau]
      rw[hby]at hM11;have HM11:=acA hM11;clear hM11 hby hm11;go_wp2_with fail;go_roundw
      case rel=>exact⟨j+1,v11,by omega,by go_num,HM11.o⟩
      case measure=>
       simp only[intOf];omega
     ·have hd2:decide ((j:Int)<(L:Int))=false:=by simpa using hjL
      have hfin:S9++(fT ((16:Nat):Int) 2++vI k x)++(fT (x.b.length:Int) 2++x.b)++fT (L:Int) 2++(x.names.take j).flatMap V8=(fT (N:Int) 2++(T.take (i+1)).flatMap fun q=>rT q.1 q.2):=by
       rw[List.take_of_length_le (show x.names.length≤j by have:=FH.o;omega),Y9.o,abL,HE.o,aaX,FH.o];simp[rT,sN,nJ,aau]
      have hMN:=Wi.o.trans HMJ.o;rw[hfin]at hMN;have Zb:=acA hMN;clear hMN hfin;go_wp2_with fail;go_roundw
      case rel=>exact⟨i+1,vj,by omega,by go_num,Zb.o⟩
      case measure=>simp[intOf];omega
   ·have e2:eY x (nb k)= .map none:=if_neg hk2;have hnil:x.names=[]:=O1.o.file (O1.o.kind.resolve_right hk2);obtain rfl:L=0:=by rw[hL,hnil];rfl
    rw[e2]at c7;have HSH0:acB (Calls Tryz.prog 88 #[ptr w.heap.size,.int .i64 0] w6 (rR w.heap.size w6 w.heap.size v6 (S9++(fT ((16:Nat):Int) 2++vI k x)++(fT (x.b.length:Int) 2++x.b)++fT ((0:Nat):Int) 2))):=LP.o;clear F6 hk2 hL;go_wp2_with fail;refine HSH0.o.mono ?_;rintro e w7 ⟨rfl,v7,Sl⟩;have EJ:=mM.o.trans (Sl.low SL.o.1);have wZ:=acA EJ;have Wd:=acA (SL.o.trans Sl);have c7:=(HF.o w7 EJ).c7;have hkk:=Tryz.GJ none w7;have hso:=sorted_at k x w7 (tY.o.below EJ acC) HT.o HX.o;rw[e2]at c7 hso;rw[hnil]at hso;have ZT:=acA hso;have Sy:=acA hnil;have NS:=wall w7 (.cells #[.map none] 136);clear Sl EJ e2 hso LP HSH0 SL mM hnil;go_wp2_with (go_at_call 93;refine hkk.mono ?_;rintro e w' ⟨rfl,rfl⟩);refine ZT.o.mono ?_;rintro e w8 ⟨a8,c8,rfl,hc8,IG,sP⟩;have Wi:=acA (Wd.o.below (NS.trans (sP.mono NS.size)));simp only[abb,List.length_nil]at hc8⊢;clear sP NS hkk IG ZT wZ c7;have hfin:S9++(fT ((16:Nat):Int) 2++vI k x)++(fT (x.b.length:Int) 2++x.b)++fT ((0:Nat):Int) 2=(fT (N:Int) 2++(T.take (i+1)).flatMap fun q=>rT q.1 q.2):=by
     rw[Y9.o,abL,HE.o,aaX];simp[rT,sN,nJ,Sy.o,aau]
    have hMN:=Wi.o;rw[hfin]at hMN;have Zb:=acA hMN;clear hMN hfin Wi Wd;go_wp2_with fail
    go_loopw [63] (fun jv wr2=>jv= .int .i64 0∧wr2=w8) (fun jv _=>0)
    case atStart=>exact⟨rfl,rfl⟩
    case round=>
     obtain⟨rfl,rfl⟩:=hrel;go_wp2_with fail;go_roundw
     case rel=>exact⟨i+1,v7,by omega,by go_num,Zb.o⟩
     case measure=>simp[intOf];omega
  ·have hd1:decide ((i:Int)<(N:Int))=false:=by simpa using hin
   have hTi:(fT (N:Int) 2++(T.take i).flatMap fun q=>rT q.1 q.2)=gV T:=by
    rw[List.take_of_length_le (by have:=xP.o;omega),xP.o];rfl
   have hlT:(gV T).length≤100000000:=by
    have:=qB HT.o T fun q hq=>hq;unfold gV;rw[List.length_append,bT];have:=xP.o;omega
   have HD:=acA (yT HM.o.1 (by rw[hTi];exact hlT));rw[hTi]at HD;go_wp2_with fail;refine HD.o.mono ?_;rintro e w9 ⟨a9,n9,c9,rfl,Y3,Ru,cO⟩;have fQ:=acA Ru;have uL:=acA (JD.o.trans (cO.mono JD.o.size));have hsr:=JD.o.size;clear Ru cO;go_wp2_with fail;go_ret;exact⟨a9,n9,c9,rfl,Y3,fQ.o.mono fun b hb=>⟨by omega,hb.2⟩,uL.o⟩
end
section
variable{W w:World}{o:Mark}{i p:Nat}{T:aL}
theorem Xe{S S':Nat→Prop}(h:fO o i w p T)(hM:Marks W o w)(hi:i≠0)(hT:dG T)(a:Option Addr)(n c:Nat)(ls:List Nm)(a':Option Addr)(n' c':Nat)(ls':List Nm)(hS:aK S w a n (ls.map strOf))(hS':aK S' w a' n' (ls'.map strOf))(hc':n'≤c')(lF:n'≤1000000):
  Calls Tryz.prog 77 #[ptr p,.slice a n c,.slice a' n' c'] w (iT o i w p (fM T ls ls').2 (.int .i64 (fM T ls ls').1)):=by
 obtain⟨g,D,mb,ib,nb,hA,hg,hD⟩:=h;exact(WI a n c ls a' n' c' ls' w hA hT hS hS' hc' lF).mono fun e w' ht=>iT.of hM hi hg hD ht
theorem Pn{S:Nat→Prop}(h:fO o i w p T)(hM:Marks W o w)(hi:i≠0)(hT:dG T)(a:Option Addr)(n c:Nat)(ls:List Nm)(hS:aK S w a n (ls.map strOf))(hc:n≤c)(lF:n≤1000000):
  Calls Tryz.prog 152 #[ptr p,.slice a n c] w (iT o i w p (bC T ls).2 (.int .i64 (bC T ls).1)):=by
 obtain⟨g,D,mb,ib,nb,hA,hg,hD⟩:=h;exact(O7 a n c ls w hA hT hS hc lF).mono fun e w' ht=>iT.of hM hi hg hD ht
theorem Tc{S:Nat→Prop}(h:fO o i w p T)(hM:Marks W o w)(hi:i≠0)(hT:dG T)(a:Option Addr)(n c:Nat)(ls:List Nm)(hS:aK S w a n (ls.map strOf))(hc:n≤c)(lF:n≤1000000):
  Calls Tryz.prog 79 #[ptr p,.slice a n c] w (iT o i w p (dP T ls).2 (.int .i64 (dP T ls).1)):=by
 obtain⟨g,D,mb,ib,nb,hA,hg,hD⟩:=h;exact(Sv a n c ls w hA hT hS hc lF).mono fun e w' ht=>iT.of hM hi hg hD ht
theorem Po{S S':Nat→Prop}(h:fO o i w p T)(hM:Marks W o w)(hi:i≠0)(hO:jm T)(a:Option Addr)(n c:Nat)(ls:List Nm)(a':Option Addr)(n' c':Nat)(ls':List Nm)(hS:aK S w a n (ls.map strOf))(hS':aK S' w a' n' (ls'.map strOf))(hc:n≤c)(lF:n≤1000000)(hc':n'≤c')(Dh:n'≤1000000):
  Calls Tryz.prog 80 #[ptr p,.slice a n c,.slice a' n' c'] w (iT o i w p (bf T ls ls').2 (.int .i64 (bf T ls ls').1)):=by
 obtain⟨g,D,mb,ib,nb,hA,hg,hD⟩:=h;exact(Ph a n c ls a' n' c' ls' w hA hO hS hS' hc lF hc' Dh).mono fun e w' ht=>iT.of hM hi hg hD ht
theorem Xf(h:fO o i w p T)(hM:Marks W o w)(hi:i≠0)(id aA:Int)(hid:(Lit.int .i64 id).wf=true)(ht0:0≤aA)(ht1:aA≤18446744073709551615):
  Calls Tryz.prog 148 #[ptr p,.int .i64 id,.int .u64 aA] w (iT o i w p (eF T id aA).2 (.int .i64 (eF T id aA).1)):=by
 obtain⟨g,D,mb,ib,nb,hA,hg,hD⟩:=h;exact(WA id aA w hA hid ht0 ht1).mono fun e w' ht=>iT.of hM hi hg hD ht
theorem Xg(h:fO o i w p T)(hM:Marks W o w)(hi:i≠0)(hT:dG T)(id aA:Int)(hid:(Lit.int .i64 id).wf=true)(ht0:0≤aA)(ht1:aA≤18446744073709551615):
  Calls Tryz.prog 157 #[ptr p,.int .i64 id,.int .u64 aA] w (iT o i w p (eX T id aA).2 (.int .i64 (eX T id aA).1)):=by
 obtain⟨g,D,mb,ib,nb,hA,hg,hD⟩:=h;exact(WB id aA w hA hid ht0 ht1 (fun x hx=>(hT.each id x hx).aA)).mono fun e w' ht=>iT.of hM hi hg hD ht
theorem Xh(h:fO o i w p T)(hM:Marks W o w)(hi:i≠0)(hT:dG T)(id:Int)(hid:(Lit.int .i64 id).wf=true):
  Calls Tryz.prog 132 #[ptr p,.int .i64 id] w (iT o i w p (fB T id).2 (.int .i64 (fB T id).1)):=by
 obtain⟨g,D,mb,ib,nb,hA,hg,hD⟩:=h;exact(drop_at id hT w hA hid).mono fun e w' ht=>iT.of hM hi hg hD ht
theorem Cg(h:fO o i w p T)(hT:dG T):Calls Tryz.prog 34 #[ptr p] w (tT w (gV T)):=by
 obtain⟨g,D,mb,ib,nb,hA,hg,hD⟩:=h;exact Xb w hA hT
theorem om_ids(h:fO o i w p T)(hT:dG T):Calls Tryz.prog 89 #[ptr p] w (Ca w (lJ T)):=by
 obtain⟨g,D,mb,ib,nb,hA,hg,hD⟩:=h;exact Gu w hA (by have:=hT.len;omega)
open Classical in
theorem gW{W w w':World}{o:Mark}(hM:Marks W o w)(j:Nat)(G:Nat→Prop)(hG:∀b,G b→w.heap.size≤b∧b<w'.heap.size)(hb:Below w.heap.size w w'):∃o',Step o (fun i=>i=j) w o' w'∧(∀b,G b→o' b=j)∧(∀b,¬G b→o' b=o b):=by
 obtain⟨o',ho⟩:∃o':Mark,∀b,o' b=if G b then j else o b:=⟨_,fun _=>rfl⟩;refine⟨o',⟨fun b hb'=> ?_,fun b hb' hn=> ?_,(Keeps.below hb).mono fun x hx hx'=>absurd hx (by omega)⟩,fun b hb'=>by rw[ho,if_pos hb'],fun b hb'=>by rw[ho,if_neg hb']⟩
 ·rw[ho,if_neg (fun h=>by have:=hG b h;omega)]
 ·by_cases h:G b
  ·rw[ho,if_pos h];exact⟨rfl,(hG b h).2⟩
  ·rw[ho,if_neg h]at hn;have:=(hM.new b hn).2;omega
theorem Xi(h:fO o i w p T)(hM:Marks W o w)(hT:dG T)(j:Nat):
  Calls Tryz.prog 86 #[ptr p] w fun e w'=>∃q o',e= .returned (ptr q)∧Step o (fun i=>i=j) w o' w'∧fO o' j w' q T∧Below w.heap.size w w':=by
 obtain⟨g,D,mb,ib,nb,hA,hg,hD⟩:=h;refine(NQ w hA hT).mono ?_;rintro e w' ⟨q,g',mq,NG,nb',rfl,hA',hg',hb⟩;obtain⟨o',hs,h1,h2⟩:=gW hM j (fun b=>g' b≠ .none) (fun b hb'=>⟨hg' b hb',hA'.low b hb'⟩) hb;refine⟨q,o',rfl,hs,⟨g',D,mq,NG,nb',hA',fun b hb'=>h1 b hb',fun b hb'=> ?_⟩,hb⟩;rw[hs.old b (hA.rX b hb')];exact hD b hb'
theorem JE(h:fO o i w p T)(hM:Marks W o w)(hT:dG T):
  Calls Tryz.prog 86 #[ptr p] w fun e w'=>∃q,e= .returned (ptr q)∧fO o 0 w' q T∧Below w.heap.size w w':=by
 obtain⟨g,D,mb,ib,nb,hA,hg,hD⟩:=h;refine(NQ w hA hT).mono ?_;rintro e w' ⟨q,g',mq,NG,nb',rfl,hA',hg',hb⟩;refine⟨q,rfl,⟨g',D,mq,NG,nb',hA',fun b hb'=> ?_,hD⟩,hb⟩;have:=hg' b hb';by_cases h0:o b=0
 ·exact h0
 ·have:=(hM.new b h0).2;omega
end
theorem Td(o:Mark):∀(n b:Nat),b<n→o b≤((List.range n).map o).sum
 |n+1,b,h=>by
  rw[acs,List.map_append,List.sum_append];simp only[aaA,abb,List.sum_cons,List.sum_nil];by_cases hb:b=n
  ·rw[hb];omega
  ·have:=Td o n b (by omega);omega
theorem xU{W w:World}{o:Mark}(hM:Marks W o w):∃j,j≠0∧∀b,o b≠j:=by
 refine⟨((List.range w.heap.size).map o).sum+1,by omega,fun b hb=> ?_⟩;have h1:=(hM.new b (by omega)).2;have:=Td o w.heap.size b h1;omega
def dK(T:aL)(k:Nat):aL:=((lJ T).take k).foldl (fun S id=>(fB S id).2) T
theorem oI(T:aL):dK T 0=T:=by unfold dK;rw[List.take_zero];rfl
theorem mF{T:aL}{k:Nat}{id:Int}(h:(lJ T)[k]? =some id):dK T (k+1)=(fB (dK T k) id).2:=by
 unfold dK;obtain⟨hk,e⟩:=aae.1 h;rw[aah hk,List.foldl_append,e];rfl
theorem qg{T:aL}:dK T T.length=bL T:=by
 unfold dK bL;rw[List.take_of_length_le (by unfold lJ;rw[List.length_map];omega)]
theorem dG.dK{T:aL}(h:dG T):∀k,dG (dK T k)
 |0=>by rw[oI];exact h
 |k+1=>by
  cases hg:(lJ T)[k]? with
  |some id=>rw[mF hg];exact(h.dK k).fB id
  |none=>
   have:Go.Proofs.YtjnhnlabpccgjaaGreatDoor.dK T (k+1)=Go.Proofs.YtjnhnlabpccgjaaGreatDoor.dK T k:=by
    have hl:=List.getElem?_eq_none_iff.1 hg;unfold Go.Proofs.YtjnhnlabpccgjaaGreatDoor.dK;rw[List.take_of_length_le hl,List.take_of_length_le (by omega)]
   rw[this];exact h.dK k
theorem jm.dK{T:aL}(h:jm T):∀k,jm (dK T k)
 |0=>by rw[oI];exact h
 |k+1=>by
  cases hg:(lJ T)[k]? with
  |some id=>rw[mF hg];exact(h.dK k).fB id
  |none=>
   have:Go.Proofs.YtjnhnlabpccgjaaGreatDoor.dK T (k+1)=Go.Proofs.YtjnhnlabpccgjaaGreatDoor.dK T k:=by
    have hl:=List.getElem?_eq_none_iff.1 hg;unfold Go.Proofs.YtjnhnlabpccgjaaGreatDoor.dK;rw[List.take_of_length_le hl,List.take_of_length_le (by omega)]
   rw[this];exact h.dK k
theorem dG.bL{T:aL}(h:dG T):dG (bL T):=by rw[←qg];exact h.dK _
theorem jm.bL{T:aL}(h:jm T):jm (bL T):=by rw[←qg];exact h.dK _
section
variable{W w:World}{o:Mark}{i p:Nat}{T:aL}
theorem xE(h:fO o i w p T)(hM:Marks W o w)(hT:dG T)(j:Nat)(hj:j≠0)(hf:∀b,o b≠j):
  Calls Tryz.prog 61 #[ptr p] w fun e w'=>∃q o',e= .returned (ptr q)∧Step o (fun i=>i=j) w o' w'∧fO o' j w' q (bL T)∧Below w.heap.size w w':=by
 have Rq:=acA (Xi h hM hT j);have HM:=acA hM;have HT:=acA hT;have HJ:=acA hj;have HF:=acA hf;have hTl:=hT.len;clear h hM hT hj hf;go_enter Tryz.func61,Tryz.ntmps61;go_wp2_with fail;refine Rq.o.mono ?_;rintro e w1 ⟨q,o1,rfl,hs1,hT1,hb1⟩;have jI:=acA hs1;have pz:=acA (HM.o.step (fun e=>HJ.o e.symm) hs1);have HT1:=acA hT1;have Di:=acA (om_ids hT1 HT.o);clear hs1 hT1 hb1;go_wp2_with fail;refine Di.o.mono ?_;rintro e w2 ⟨a,cap,rfl,hlc,hrow,hb2⟩;have hll:(lJ T).length=T.length:=by unfold lJ;rw[List.length_map]
 rw[hll]at hlc hrow;rw[hll];obtain⟨tl,htl⟩:∃tl,tl=T.length:=⟨_,rfl⟩;rw[←htl]at hTl hlc hrow⊢;have NV:=acA htl;have iL:=acA hrow;have HS2:=acA (jI.o.then_ HM.o (fun e=>HJ.o e.symm) hb2);have HT2:=acA (HT1.o.grow hb2);clear hb2 hrow htl hll;have HR2:=acA ((iL.o.Jh pz.o));clear iL;go_wp2_with fail
 go_loopw [4,12] (fun _ iv wr=>∃(k:Nat) (o2:Mark),iv= .int .i64 k∧k≤tl∧Step o (fun i=>i=j) w o2 wr∧fO o2 j wr q (dK T k)∧ah (Free o2 wr) wr a tl ((lJ T).map (Value.int .i64))) (fun _ iv _=>tl-(intOf iv).toNat)
 case atStart=>
  exact⟨0,o1,rfl,Nat.zero_le _,HS2.o,by rw[oI];exact HT2.o,HR2.o⟩
 case round=>
  obtain⟨k,o2,rfl,hk,hs,hTk,EK⟩:=hrel;have HS:=acA hs;have KZ:=acA hTk;have K3:=acA EK;clear hs hTk EK;by_cases hlt:k<tl
  ·have hd:decide ((k:Int)<(tl:Int))=true:=by simpa using hlt
   obtain⟨id,hid⟩:∃id,(lJ T)[k]? =some id:=⟨(lJ T)[k]'(by unfold lJ;rw[List.length_map,←NV.o];exact hlt),List.getElem?_eq_getElem _⟩;obtain⟨b,off,rfl,hfb,hbw,hc⟩:=K3.o.at_ (by omega);have hck:=hc k hlt;rw[List.getElem?_map,hid]at hck;have hcell:wr.cell? ⟨b,off+k,none⟩=some (.int .i64 id):=hck;have hwf:(Lit.int .i64 id).wf=true:=by
    have hm:=aax hid;unfold lJ at hm;obtain⟨q',hq',rfl⟩:=List.mem_map.1 hm;have:=HT.o.ids q'.1 q'.2 (cK fC HT.o.sorted hq');simp[Lit.wf,IntKind.min,IntKind.max,IntKind.signed,IntKind.bits];omega
   have HDR:=acA (Xh KZ.o (HM.o.step (fun e=>HJ.o e.symm) HS.o) HJ.o (HT.o.dK k) id hwf);have i0:(0:Int)≤(k:Int):=by omega
   have i1:(k:Int)<(tl:Int):=by omega
   have Xj:=acA hid;clear hid hfb hbw hc hck hwf;go_wp2_with fail;refine HDR.o.mono ?_;rintro e w3 ⟨rfl,o3,hs3,wJ⟩;have IE:=acA (HS.o.trans hs3);have HT3:=acA wJ;have HR3:=acA (K3.o.free (fun e=>HJ.o e.symm) hs3);clear hs3 wJ HDR;go_wp2_with fail;go_roundw
   case rel=>
    refine⟨k+1,o3,by go_num,by omega,IE.o,?_,HR3.o⟩;rw[mF Xj.o];exact HT3.o
   case measure=>simp[intOf];omega
  ·have hd:decide ((k:Int)<(tl:Int))=false:=by simp;omega
   obtain rfl:tl=k:=by omega
   go_wp2_with fail;go_ret;have h9:=KZ.o;rw[NV.o,qg]at h9;refine⟨q,o2,rfl,HS.o,h9,?_⟩;exact HS.o.keep.mh acC fun x _ hx=>HF.o x hx
theorem xG(h:fO o i w p T)(hM:Marks W o w)(hT:dG T):
  Calls Tryz.prog 61 #[ptr p] w fun e w'=>∃q,e= .returned (ptr q)∧fO o 0 w' q (bL T)∧Below w.heap.size w w':=by
 obtain⟨j,hj,hf⟩:=xU hM;refine(xE h hM hT j hj hf).mono ?_;rintro e w' ⟨q,o',rfl,hs,hT',hb⟩;refine⟨q,rfl,hT'.remark (fun b hb' he=> ?_) (fun b hb' he=> ?_),hb⟩
 ·by_cases hlt:b<w.heap.size
  ·rw[hs.old b hlt]at he;exact absurd he (hf b)
  ·exact aaj fun h0=>by have:=(hM.new b h0).2;omega
 ·by_cases hlt:b<w.heap.size
  ·rw[hs.old b hlt]at he;exact he
  ·exact aaj fun h0=>by have:=(hM.new b h0).2;omega
end
section
variable{W w:World}{o:Mark}{i s:Nat}{S:rE}
theorem iF.grow(h:iF o i w s S){w':World}(hM:Marks W o w)(hb:Below w.heap.size w w'):iF o i w' s S:=
 h.step (I:=fun _=>False) (fun h=>h) (fun h=>h) (Step.grow hM hb)
theorem iF.lt(h:iF o i w s S):s<w.heap.size:=by
 obtain⟨v,la,lc,vals,h1,h2,h3,h4,h5,h6,h7,h8⟩:=h.at_;exact h3
theorem Pp(hM:Marks W o w)(j:Nat)(hj:j≠0):Calls Tryz.prog 21 #[] w fun e w'=>∃s o',e= .returned (ptr s)∧Step o (fun k=>k=j) w o' w'∧iF o' j w' s NP∧Below w.heap.size w w':=by
 have HM:=acA hM;clear hM;go_enter Tryz.func21,Tryz.ntmps21;go_wp2;go_ret;obtain⟨o',hs,h1,h2⟩:=gW HM.o j (fun b=>b=w.heap.size) (w':=w.alloc (.cells #[.slice none 0 0,.int .i64 1,.slice none 0 0] 109)) (fun b hb=>by subst hb;simp) (wall w _);refine⟨w.heap.size,o',rfl,hs,⟨.slice none 0 0,none,0,[],(MapKept.heap_alloc w _).1,h1 _ rfl,by simp,⟨rfl,.inl ⟨rfl,rfl⟩⟩,fun b hb=>by simp[Value.ownBlock]at hb,rfl,Nat.le_refl _,ah.nil _ _ _⟩,wall w _⟩
def zh(l:List jC)(id v:Int):Prop:=
 (v= -1∧∀x∈l,x.id≠id)∨∃(k:Nat) (x:jC),v=k∧l[k]? =some x∧x.id=id∧∀x'∈l.take k,x'.id≠id
theorem Pq(z:Int)(hv qv:Value)(id:Int)(vb:Nat)(w:World)(hc:w.cell? ⟨vb,0,none⟩=some (.int .i64 id))(hvb:vb<w.heap.size):Calls Tryz.prog 197 #[.agg #[.int .i64 z,hv,qv],ptr vb] w fun e w'=>e= .returned (.bool (z==id))∧Below w.heap.size w w':=by
 have hc2:(w.alloc (.cells #[.int .i64 z,hv,qv] 148)).cell? ⟨vb,0,none⟩=some (.int .i64 id):=((wall w _).cell (p:=⟨vb,0,none⟩) hvb).trans hc;go_enter Tryz.func197,Tryz.ntmps197;go_wp2;go_ret;exact⟨rfl,wall w _⟩
theorem Pt{a:Option Addr}{n c:Nat}{vals:List Value}{l:List jC}(id:Int)(vb:Nat)(hl:l.length=n)(hr:ah (fun b=>b<w.heap.size) w a (n*3) vals)(hO:eH o w vals l)(hn:n≤1000)(hc:w.cell? ⟨vb,0,none⟩=some (.int .i64 id))(hvb:vb<w.heap.size):
  Calls Tryz.prog 196 #[.slice a n c,.func (.func 197) #[] #[ptr vb]] w fun e w'=>∃v,e= .returned (.int .i64 v)∧zh l id v∧Below w.heap.size w w':=by
 have HR:=acA hr;have HO:=acA hO;have HL:=acA hl;clear hr hO hl;go_enter Tryz.func196,Tryz.ntmps196;go_wp2
 go_loopw [5,8] (fun _ iv wr=>∃k:Nat,k≤n∧iv= .int .i64 k∧(∀x∈l.take k,x.id≠id)∧Below w.heap.size w wr) (fun _ iv _=>n-(intOf iv).toNat)
 case atStart=>exact⟨0,by omega,rfl,by simp,Below.refl _ _⟩
 case round=>
  obtain⟨k,hk,rfl,hno,hb⟩:=hrel;have zM:=acA hno;have HB:=acA hb;clear hno;by_cases hlt:k<n
  ·obtain⟨g,off,rfl,hgw,_,hcell⟩:=HR.o.at_ (by omega);obtain⟨x,hx⟩:∃x,l[k]? =some x:=⟨l[k]'(by rw[HL.o];exact hlt),List.getElem?_eq_getElem _⟩;obtain⟨ha,hcp,q,e0,e1,e2,_⟩:=HO.o.at_ hx;have d0:wr.cell? ⟨g,off+k*3,none⟩=some (.int .i64 x.id):=(hb.cell (p:=⟨g,off+k*3,none⟩) hgw).trans ((hcell (k*3) (by omega)).trans e0);have d1:wr.cell? ⟨g,off+k*3+1,none⟩=some (.slice ha x.hash.length hcp):=(hb.cell (p:=⟨g,off+k*3+1,none⟩) hgw).trans ((hcell (k*3+1) (by omega)).trans e1);have d2:wr.cell? ⟨g,off+k*3+2,none⟩=some (ptr q):=(hb.cell (p:=⟨g,off+k*3+2,none⟩) hgw).trans ((hcell (k*3+2) (by omega)).trans e2);have HX:=acA hx;have hcv:=(hb.cell (p:=⟨vb,0,none⟩) hvb).trans hc;have HF:=acA (Pq x.id (.slice ha x.hash.length hcp) (ptr q) id vb wr hcv (by have:=hb.size;omega));have i0:(0:Int)≤(k:Int):=by omega
   have i1:(k:Int)<(n:Int):=by omega
   have hd:decide ((k:Int)<(n:Int))=true:=by simpa using i1
   clear hx hcell e0 e1 e2 hcv hb;by_cases he:x.id=id
   ·have he2:(x.id==id)=true:=by simpa using he
    rw[he2]at HF;have HE:=acA he;clear he he2;go_wp2_with fail;refine HF.o.mono ?_;rintro e w1 ⟨rfl,hb1⟩;go_wp2_with fail;go_ret;exact⟨k,rfl,.inr ⟨k,x,rfl,HX.o,HE.o,zM.o⟩,HB.o.trans (hb1.mono HB.o.size)⟩
   ·have he2:(x.id==id)=false:=by simpa using he
    rw[he2]at HF;have HE:=acA he;clear he he2;go_wp2_with fail;refine HF.o.mono ?_;rintro e w1 ⟨rfl,hb1⟩;go_wp2_with fail;go_roundw
    case rel=>
     refine⟨k+1,by omega,by go_num,fun y hy=> ?_,HB.o.trans (hb1.mono HB.o.size)⟩;obtain⟨hkl,ek⟩:=aae.1 HX.o;rw[aah hkl,ek]at hy;rcases aaL.1 hy with hy|hy
     ·exact zM.o y hy
     ·simp only[List.mem_singleton]at hy;rw[hy];exact HE.o
    case measure=>simp[intOf];omega
  ·have hd:decide ((k:Int)<(n:Int))=false:=by simp;omega
   go_wp2_with fail;go_ret;refine⟨-1,rfl,.inl ⟨rfl,fun x hx=>zM.o x ?_⟩,HB.o⟩;rw[List.take_of_length_le (by have:=HL.o;omega)];exact hx
theorem JF(h:iF o i w s S)(id:Int)(hn:S.l.length≤1000):Calls Tryz.prog 160 #[ptr s,.int .i64 id] w fun e w'=>∃v,e= .returned (.int .i64 v)∧zh S.l id v∧Below w.heap.size w w':=by
 obtain⟨v,la,lc,vals,h1,h2,h3,h4,h5,h6,h7,h8⟩:=h.at_;obtain⟨a,c,rfl,hcap⟩:=dI h4;obtain⟨-,-,hrow⟩:=ah.qd h4 (by unfold maxLen;omega);have c0:w.cell? ⟨s,0,none⟩=some (.slice a S.l.length c):=by simp[World.cell?,h1]
 obtain⟨n,hnl⟩:∃n,n=S.l.length:=⟨_,rfl⟩;rw[←hnl]at c0 hrow hcap hn;have hca:=(wall w (.cells #[.int .i64 id] 3));have c1:=(hca.cell (p:=⟨s,0,none⟩) h3).trans c0;have HI:=acA (Pt (w:=w.alloc (.cells #[.int .i64 id] 3)) (a:=a) (n:=n) (c:=c) id w.heap.size hnl.symm ((hrow.below hca acC).mono fun b hb=>by simp;omega) (show eH o _ vals S.l from eH.grow hca h6) hn mU (by simp));clear h h1 h2 h4 h5 h6 h7 h8 hrow hca c0 hnl;go_enter Tryz.func160,Tryz.ntmps160;go_wp2_with fail;refine HI.o.mono ?_;rintro e w1 ⟨v,rfl,hf,hb1⟩;have HF:=acA hf;have HB:=acA hb1;clear hf hb1;go_wp2_with fail;go_ret;exact⟨v,rfl,HF.o,(wall w _).trans (HB.o.mono (by simp))⟩
end
structure EL where
 wr:Bool
 id:Int
 b:List UInt8
structure dS where
 t:aL
 s:rE
 now:Int
 fds:Nat→Option EL
def sQ:dS:=⟨wX,NP,0,fun _=>none⟩
def zi(o:Mark)(w:World)(v:Value):Option EL→Prop
 |none=>v= .pointer none
 |some f=>∃q a c,v=ptr q∧o q=0∧q<w.heap.size∧w.heap[q]? =some (.cells #[.bool f.wr,.int .i64 f.id,.slice a f.b.length c] 186 (0,0))∧f.b.length≤c∧ah (Free o w) w a f.b.length (f.b.map bv)
def Ew(t s:Nat)(now:Int)(v:Nat→Value):Array Value:= #[ptr t,ptr s,.int .u64 now,v 0,v 1,v 2,v 3,v 4,v 5,v 6,v 7]
structure bZ(o:Mark)(i j k:Nat)(w:World)(p:Nat)(M:dS):Prop where
 at_:∃t s v,w.heap[p]? =some (.cells (Ew t s M.now v) 57 (0,0))∧iF o i w s M.s∧fO o j w t M.t∧∀n,n<8→zi o w (v n) (M.fds n)
 own:o p=k
 low:p<w.heap.size
theorem zi.step{o o':Mark}{I:Nat→Prop}{w w':World}{v:Value}{f:Option EL}(h:zi o w v f)(hi:¬I 0)(hs:Step o I w o' w'):zi o' w' v f:=by
 cases f with
 |none=>exact h
 |some f=>
  obtain⟨q,a,c,h1,h2,h3,h4,h5,h6⟩:=h;exact⟨q,a,c,h1,(hs.old q h3).trans h2,Pd h3 hs.keep.size,(hs.block h3 (by rw[h2];exact hi)).trans h4,h5,h6.free hi hs⟩
theorem zi.grow{o:Mark}{w w':World}{v:Value}{f:Option EL}(h:zi o w v f)(hb:Below w.heap.size w w'):zi o w' v f:=by
 cases f with
 |none=>exact h
 |some f=>
  obtain⟨q,a,c,h1,h2,h3,h4,h5,h6⟩:=h;exact⟨q,a,c,h1,h2,Pd h3 hb.size,(hb.block q h3).trans h4,h5,h6.move hb.size fun b hb' hbw=>⟨⟨hb'.1,Pd hb'.2 hb.size⟩,hb.block b hbw⟩⟩
theorem bZ.step{o o':Mark}{I:Nat→Prop}{i j k:Nat}{w w':World}{p:Nat}{M:dS}(h:bZ o i j k w p M)(h0:¬I 0)(hi:¬I i)(hj:¬I j)(hk:¬I k)(hs:Step o I w o' w'):bZ o' i j k w' p M:=by
 obtain⟨t,s,v,h1,h2,h3,h4⟩:=h.at_;exact⟨⟨t,s,v,(hs.block h.low (by rw[h.own];exact hk)).trans h1,h2.step h0 hi hs,h3.step h0 hj hs,fun n hn=>(h4 n hn).step h0 hs⟩,(hs.old p h.low).trans h.own,Pd h.low hs.keep.size⟩
theorem bZ.grow{W:World}{o:Mark}{i j k:Nat}{w w':World}{p:Nat}{M:dS}(h:bZ o i j k w p M)(hM:Marks W o w)(hb:Below w.heap.size w w'):bZ o i j k w' p M:=
 h.step (I:=fun _=>False) (fun e=>e) (fun e=>e) (fun e=>e) (fun e=>e) (Step.grow hM hb)
theorem gF{w:World}{p t s:Nat}{now:Int}{v:Nat→Value}(h:w.heap[p]? =some (.cells (Ew t s now v) 57 (0,0))):w.cell? ⟨p,0,none⟩=some (ptr t)∧w.cell? ⟨p,1,none⟩=some (ptr s)∧w.cell? ⟨p,2,none⟩=some (.int .u64 now)∧(∀n,n<8→w.cell? ⟨p,3+n,none⟩=some (v n))∧∀j,w.frozen? ⟨p,j,none⟩=false:=by
 refine⟨?_,?_,?_,fun n hn=> ?_,fun j=> ?_⟩
 ·simp[World.cell?,h,Ew]
 ·simp[World.cell?,h,Ew]
 ·simp[World.cell?,h,Ew]
 ·rcases (show n=0∨n=1∨n=2∨n=3∨n=4∨n=5∨n=6∨n=7 by omega)with rfl|rfl|rfl|rfl|rfl|rfl|rfl|rfl<;>simp[World.cell?,h,Ew]
 ·simp[World.frozen?,h]
theorem st_put(t s:Nat)(now:Int)(v:Nat→Value)(n:Nat)(hn:n<8)(x:Value):(Ew t s now v).setIfInBounds (3+n) x=Ew t s now (fun m=>if m=n then x else v m):=by
 rcases (show n=0∨n=1∨n=2∨n=3∨n=4∨n=5∨n=6∨n=7 by omega)with rfl|rfl|rfl|rfl|rfl|rfl|rfl|rfl<;>rfl
theorem st_now(t s:Nat)(now u:Int)(v:Nat→Value):(Ew t s now v).setIfInBounds 2 (.int .u64 u)=Ew t s u v:=rfl
def jV(M:dS)(n:Int)(wr:Bool):Option EL:=if 0≤n∧n<8 then(match M.fds n.toNat with|some f=>if f.wr=wr then some f else none|none=>none)else none
def JG(M:dS)(v:Int):Prop:=(v= -1∧∀n,n<8→M.fds n≠none)∨∃n:Nat,n<8∧v=n∧M.fds n=none∧∀m,m<n→M.fds m≠none
def mG(z:Int):Value:= .agg #[.int .i64 z,.int .i64 0,.slice none 0 0,.slice none 0 0,.int .i64 0,.int .i64 0,.int .i64 0,.int .i64 0,.int .u64 0,.bool false]
theorem iZ(z:Int)(w:World):Calls Tryz.prog 70 #[.int .i64 z] w fun e w'=>e= .returned (mG z)∧Below w.heap.size w w':=by
 go_enter Tryz.func70,Tryz.ntmps70;go_wp2;refine aa3 (v:=mG z) (by simp[results,Tryz.results70,mG,go_sem]) rfl ⟨rfl,wall w _⟩
section
variable{W w:World}{o:Mark}{i j k p:Nat}{M:dS}
def JH(o:Mark)(w:World)(M:dS)(n:Int)(b:Bool)(e:Ending):Prop:=
 (jV M n b=none∧e= .returned (.tuple #[.pointer none,.bool false]))∨∃f v,jV M n b=some f∧e= .returned (.tuple #[v,.bool true])∧zi o w v (some f)
theorem Xk(h:bZ o i j k w p M):Calls Tryz.prog 26 #[ptr p] w fun e w'=>e= .returned (.int .u64 M.now)∧Below w.heap.size w w':=by
 obtain⟨t,s,v,h1,h2,h3,h4⟩:=h.at_;obtain⟨c0,c1,c2,c3,c4⟩:=gF h1;clear h h1 h2 h3 h4;go_enter Tryz.func26,Tryz.ntmps26;go_wp2;go_ret;exact⟨rfl,Below.refl _ _⟩
theorem GN(h:bZ o i j k w p M)(n:Int)(b:Bool):Calls Tryz.prog 145 #[ptr p,.int .i64 n,.bool b] w fun e w'=>w'=w∧JH o w M n b e:=by
 obtain⟨t,s,v,h1,h2,h3,h4⟩:=h.at_;obtain⟨c0,c1,c2,c3,c4⟩:=gF h1;have H4:=acA h4;have C3:=acA c3;clear h h1 h2 h3 h4 c3 c4;by_cases hn0:n<0
 ·have hg:acB (jV M n b=none):=by have:jV M n b=none:=by unfold jV;rw[if_neg (by omega)]
                                  exact acA this
  have hd:decide (n<0)=true:=by simpa using hn0
  go_enter ab7,abX;go_wp2_with fail
  go_ret2
  exact⟨rfl,.inl ⟨hg.o,rfl⟩⟩
 ·by_cases lF:8≤n
  ·have hg:acB (jV M n b=none):=by have:jV M n b=none:=by unfold jV;rw[if_neg (by omega)]
                                   exact acA this
   have hd:decide (n<0)=false:=by simpa using hn0
   have hd2:decide (8≤n)=true:=by simpa using lF
   go_enter ab7,abX;go_wp2_with fail
   go_ret2
   exact⟨rfl,.inl ⟨hg.o,rfl⟩⟩
  ·obtain⟨m,rfl⟩:∃m:Nat,n=m:=⟨n.toNat,by omega⟩;have hm:m<8:=by omega
   have hcm:=C3.o m hm;have hf:=H4.o m hm;have hg:jV M m b=match M.fds m with|some f=>if f.wr=b then some f else none|none=>none:=by
    unfold jV;rw[if_pos (by omega)];rfl
   have hd:decide ((m:Int)<0)=false:=by simp
   have hd2:decide (8≤(m:Int))=false:=by simp;omega
   have i0:(0:Int)≤m:=by omega
   have i1:(m:Int)<8:=by omega
   cases qz:M.fds m with
   |none=>
    rw[qz]at hf hg;have hv:v m= .pointer none:=hf;rw[hv]at hcm;have HG:=acA hg;clear hf hg qz hv;go_enter ab7,abX;go_wp2_with fail
    go_ret2
    exact⟨rfl,.inl ⟨HG.o,rfl⟩⟩
   |some f=>
    rw[qz]at hf hg;have HF:=acA hf;obtain⟨q,a,c,hv,hq0,hq1,hq2,_,_⟩:=hf;rw[hv]at hcm HF;have q0:w.cell? ⟨q,0,none⟩=some (.bool f.wr):=by simp[World.cell?,hq2]
    obtain⟨fw,fi,fb⟩:=f;have HG:=acA hg;clear hg qz hv hq2;cases fw with
    |false=>
     cases b with
     |false=>
      go_enter ab7,abX;go_wp2_with fail
      go_ret2
      exact⟨rfl,.inr ⟨⟨false,fi,fb⟩,_,HG.o.trans (if_pos trivial),rfl,HF.o⟩⟩
     |true=>
      go_enter ab7,abX;go_wp2_with fail
      go_ret2
      exact⟨rfl,.inl ⟨HG.o.trans (if_neg (by simp)),rfl⟩⟩
    |true=>
     cases b with
     |false=>
      go_enter ab7,abX;go_wp2_with fail
      go_ret2
      exact⟨rfl,.inl ⟨HG.o.trans (if_neg (by simp)),rfl⟩⟩
     |true=>
      go_enter ab7,abX;go_wp2_with fail
      go_ret2
      exact⟨rfl,.inr ⟨⟨true,fi,fb⟩,_,HG.o.trans (if_pos trivial),rfl,HF.o⟩⟩
end
abbrev xH(a b:Int):Int:=bits .or .u32 a b
abbrev Dk(a b:Int):Int:=bits .xor .u32 a b
abbrev Te(a b:Int):Int:=bits .and .u32 a b
def lX(x:Int)(s:Nat):Int:=xH (x*2^s%4294967296) (x/2^(32-s))
theorem oJ(x k:Int)(s:Nat)(w:World)(hk:bits .and .u64 (IntKind.u64.wrap k) 31=(s:Int))(h0:0<s)(h1:s<32):Calls Tryz.prog 257 #[.int .u32 x,.int .i64 k] w fun e w'=>e= .returned (.int .u32 (lX x s))∧w=w':=by
 have e1:(0:Int)≤(s:Int):=by omega
 have e2:(s:Int)≤32:=by omega
 have e3:IntKind.u64.wrap (32-(s:Int))=32-(s:Int):=by simp[IntKind.wrap,IntKind.bits,IntKind.signed];omega
 have e4:(0:Int)≤32-(s:Int):=by omega
 have e5:32-(s:Int)≤32:=by omega
 go_enter Tryz.func257,Tryz.ntmps257;go_wp2;go_ret;exact⟨rfl,rfl⟩
def Bh(a b c d:UInt8):Int:=xH (xH (xH (xH 0 ((d.toNat:Int)%4294967296)) ((c.toNat:Int)%4294967296*256%4294967296)) ((b.toNat:Int)%4294967296*65536%4294967296)) ((a.toNat:Int)%4294967296*16777216%4294967296)
theorem Tf{S:Nat→Prop}(ad:Option Addr)(n c:Nat)(bs:List UInt8)(w:World)(hr:ah S w ad n (bs.map bv))(hn:4≤n):Calls Tryz.prog 256 #[.slice ad n c] w fun e w'=>e= .returned (.int .u32 (Bh (bs.getD 0 0) (bs.getD 1 0) (bs.getD 2 0) (bs.getD 3 0)))∧w=w':=by
 obtain⟨b,off,rfl,-,-,hc⟩:=hr.at_ (by omega);have hl:bs.length=n:=by simpa using hr.length
 have hm:=hr.small;unfold maxLen at hm;have q:∀i,i<4→w.cell? ⟨b,off+i,none⟩=some (bv (bs.getD i 0)):=fun i hi=>by
  rw[hc i (by omega),List.getElem?_map,List.getElem?_eq_getElem (by omega),aaB,List.getElem?_eq_getElem (by omega)];rfl
 have q0:w.cell? ⟨b,off,none⟩=some (.int .u8 ((bs.getD 0 0).toNat:Int)):=q 0 (by omega);have q1:w.cell? ⟨b,off+1,none⟩=some (.int .u8 ((bs.getD 1 0).toNat:Int)):=q 1 (by omega);have q2:w.cell? ⟨b,off+2,none⟩=some (.int .u8 ((bs.getD 2 0).toNat:Int)):=q 2 (by omega);have q3:w.cell? ⟨b,off+3,none⟩=some (.int .u8 ((bs.getD 3 0).toNat:Int)):=q 3 (by omega);generalize bs.getD 0 0=b0 at*;generalize bs.getD 1 0=b1 at*;generalize bs.getD 2 0=b2 at*;generalize bs.getD 3 0=b3 at*;have d3:((n:Int)==3)=false:=by simp;omega
 have d2:((n:Int)==2)=false:=by simp;omega
 have d1:((n:Int)==1)=false:=by simp;omega
 have d0:((n:Int)==0)=false:=by simp;omega
 have l3:(3:Int)<(n:Int):=by omega
 have l2:(2:Int)<(n:Int):=by omega
 have l1:(1:Int)<(n:Int):=by omega
 have l0:(0:Int)<(n:Int):=by omega
 clear q hc hr;go_enter Tryz.func256,Tryz.ntmps256;go_wp2;go_ret;exact⟨rfl,rfl⟩
def kM:List Int:=[1116352408,1899447441,3049323471,3921009573,961987163,1508970993,2453635748,2870763221,3624381080,310598401,607225278,1426881987,1925078388,2162078206,2614888103,3248222580,3835390401,4022224774,264347078,604807628,770255983,1249150122,1555081692,1996064986,2554220882,2821834349,2952996808,3210313671,3336571891,3584528711,113926993,338241895,666307205,773529912,1294757372,1396182291,1695183700,1986661051,2177026350,2456956037,2730485921,2820302411,3259730800,3345764771,3516065817,3600352804,4094571909,275423344,430227734,506948616,659060556,883997877,958139571,1322822218,1537002063,1747873779,1955562222,2024104815,2227730452,2361852424,2428436474,2756734187,3204031479,3329325298]
def vL:List Int:=[1779033703,3144134277,1013904242,2773480762,1359893119,2600822924,528734635,1541459225]
abbrev eP(z:Int):Value:= .int .u32 z
abbrev IJ(z:Int):Int:=z%4294967296
def vM(b:List UInt8)(i:Nat):Int:=Bh ((b.drop (i*4)).getD 0 0) ((b.drop (i*4)).getD 1 0) ((b.drop (i*4)).getD 2 0) ((b.drop (i*4)).getD 3 0)
def sg0(x:Int):Int:=Dk (Dk (lX x 25) (lX x 14)) (x/8)
def sg1(x:Int):Int:=Dk (Dk (lX x 15) (lX x 13)) (x/1024)
def Bj(ws:List Int):Int:=IJ (IJ (IJ (ws.getD (ws.length-16) 0+sg0 (ws.getD (ws.length-15) 0))+ws.getD (ws.length-7) 0)+sg1 (ws.getD (ws.length-2) 0))
def fI(b:List UInt8):Nat→List Int
 |0=>(List.range 16).map (vM b)
 |n+1=>fI b n++[Bj (fI b n)]
theorem qN(b:List UInt8):∀n,(fI b n).length=16+n
 |0=>by simp[fI]
 |n+1=>by unfold fI;rw[List.length_append,qN b n];simp;omega
structure wL where
 a:Int
 c:Int
 d:Int
 e:Int
 f:Int
 g:Int
 h:Int
 j:Int
def bnot(x:Int):Int:=bits .xor .u32 (if IntKind.u32.signed=true then-1 else IntKind.u32.max) x
def tM(s:wL)(k w:Int):Int:=IJ (s.j+Dk (Dk (lX s.f 26) (lX s.f 21)) (lX s.f 7)+Dk (Te s.f s.g) (Te (bnot s.f) s.h)+k+w)
def uM(s:wL):Int:=IJ (Dk (Dk (lX s.a 30) (lX s.a 19)) (lX s.a 10)+Dk (Dk (Te s.a s.c) (Te s.a s.d)) (Te s.c s.d))
def xV(s:wL)(k w:Int):wL:=⟨IJ (tM s k w+uM s),s.a,s.c,s.d,IJ (s.e+tM s k w),s.f,s.g,s.h⟩
def nL(s:wL)(ws:List Int):Nat→wL
 |0=>s
 |n+1=>xV (nL s ws n) (kM.getD n 0) (ws.getD n 0)
def wL.list(s:wL):List Int:=[s.a,s.c,s.d,s.e,s.f,s.g,s.h,s.j]
def wL.of(h:List Int):wL:=⟨h.getD 0 0,h.getD 1 0,h.getD 2 0,h.getD 3 0,h.getD 4 0,h.getD 5 0,h.getD 6 0,h.getD 7 0⟩
def iG(h:List Int)(b:List UInt8):List Int:=List.zipWith (fun x y=>IJ (x+y)) h (nL (wL.of h) (fI b 48) 64).list
theorem mX(h:List Int)(b:List UInt8)(hl:h.length=8):(iG h b).length=8:=by unfold iG;rw[List.length_zipWith,hl];rfl
def runM(h:List Int):Nat→List UInt8→List Int
 |0,_=>h
 |n+1,b=>runM (iG h (b.take 64)) n (b.drop 64)
theorem oU:∀(n:Nat) (h:List Int) (b:List UInt8),h.length=8→(runM h n b).length=8
 |0,h,b,hl=>hl
 |n+1,h,b,hl=>oU n _ _ (mX h _ hl)
end Go.Proofs.YtjnhnlabpccgjaaGreatDoor
