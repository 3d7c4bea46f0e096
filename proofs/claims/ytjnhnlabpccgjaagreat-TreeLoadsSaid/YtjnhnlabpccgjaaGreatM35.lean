/- TreeLoads: the walk. -/
import Derived.Test.YtjnhnlabpccgjaaGreatM28
import Derived.Test.YtjnhnlabpccgjaaGreatM30
import Derived.Test.YtjnhnlabpccgjaaGreatM33
import Derived.Test.YtjnhnlabpccgjaaGreatM32
import Derived.Test.YtjnhnlabpccgjaaGreatM26
import Derived.Test.YtjnhnlabpccgjaaGreatM34
import Derived.Test.YtjnhnlabpccgjaaGreatM19
import Derived.Test.YtjnhnlabpccgjaaGreatM04
import Derived.Deep.DeepCutAuto
namespace Go.Proofs.YtjnhnlabpccgjaaGreat.treeLoads
open Go.ChangeShapes Go.WideShapes Go.ChangeAt Go.RowKit
set_option linter.unusedVariables false
set_option linter.unusedSimpArgs false
theorem Ta {T:aF} {w w':World} {e:Ending} (h:lI (kE T) w e w') (hT:gI T):∃p,e= .returned (.tuple #[ptr p, .int .i64 0])∧CQ w p T w':=by
 rcases h with⟨U,p,h1,h2,h3,h4⟩|⟨h1,_⟩
 ·rw[zI (gI.QV hT.1)]at h1
  cases h1
  exact⟨p,h3,h4⟩
 ·exact absurd (GX hT) (h1 T (zI (gI.QV hT.1)))
theorem Ql {W w w':World} {p:Nat} {T:aF} (h:CQ w p T w') (hW:Below W.heap.size W w) (hT:OkW T):jf W (fun _=>False) w' p T:=by
 obtain⟨g,D,mb,ib,nb,hA,hg,hD,hb⟩:=h
 have hs:=hW.size
 exact⟨⟨g,D,mb,ib,nb,hA,fun b hb'=>⟨hb'.elim (fun h1=>by have:=hg b h1;omega) fun h1=>by have:=hD b h1;omega,fun h=>h⟩⟩,hT,hW.trans (hb.mono hs)⟩
set_option maxRecDepth 100000 in
set_option maxHeartbeats 16000000 in
theorem walk {H:Type} {enc:TypeId×Value→H} (W:World) (base:Nat) (v0:Value) (d0:DataW H) (p0:List MemPlace) (o0:Value.okWide Tryz.prog W .any base 48 v0) (h0:DataW.Trod enc Tryz.prog W 0 (fun _=>true) true 48 v0 d0 p0) (l0:∀x∈p0,x.block<W.heap.size) (v1:Value) (d1:DataW H) (p1:List MemPlace) (o1:Value.okWide Tryz.prog W .any base 23 v1) (h1:DataW.Trod enc Tryz.prog W 0 (fun _=>true) true 23 v1 d1 p1) (l1:∀x∈p1,x.block<W.heap.size) (a2:Int) (w2:(Lit.int .i64 a2).wf=true) (a3:Int) (w3:(Lit.int .u8 a3).wf=true) (a4:Bool) (hsz:(DataW.weightsEach Tryz.prog [48,23,3,5,4] ([d0,d1, .lit (.int .i64 a2), .lit (.int .u8 a3), .lit (.bool a4)]:List (DataW H))).all (· ≤reachBytes)=true):
  Calls Tryz.prog 4 #[v0,v1, .int .i64 a2, .int .u8 a3, .bool a4] W (Wn W):=by
 obtain⟨a,len,cap,rfl,hlc,hA⟩:∃a len cap,v0= .slice a len cap∧len≤cap∧M6 W a len:=by
  obtain⟨a0,len,cap,rfl⟩:=okWide_slice Tryz.underlying48 o0
  obtain⟨fuel,hf⟩:=h0
  refine EB hf l0 fun n hn=> ?_
  rw[List.all_eq_true]at hsz
  exact of_decide_eq_true (hsz n (mV (j:=0) rfl rfl n hn))
 obtain⟨ba,bn,bc,bs,rfl,hbc,hR0⟩:∃a len cap bs,v1= .slice a len cap∧len≤cap∧aj (Old W) W a len ((bs:List UInt8).map bv):=by
  obtain⟨a0,len,cap,rfl⟩:=okWide_slice Tryz.underlying23 o1
  obtain⟨fuel,hf⟩:=h1
  exact wQ hf l1
 have rR:=Lib.hid (Gu a len cap hA (Below.refl W.heap.size W))
 have Wj:=Lib.hid hR0
 have HW2:=Lib.hid w2
 obtain⟨i8,hi⟩:∃i,Tryz.prog.info? 5=some i∧i.zero=some (.int .u8 0)∧i.size=1∧i.bytes=1:=info_parts (by kernel_rfl)
 have HI:=Lib.hid hi
 clear o0 h0 l0 o1 h1 l1 hsz hlc hA hR0 hi w2 w3
 go_enter Tryz.func4,Tryz.ntmps4
 go_wp2_with fail
 (with_reducible refine rR.out.mono ?_)
 rintro e w1 ⟨t,r,rfl,T,⟨P,F,Gt⟩,hb1⟩
 have Ag:=Lib.hid Gt.okay.1
 have Tc:=Lib.hid Gt.ref
 have HB1:=Lib.hid hb1
 clear Gt hb1 rR
 obtain⟨sv,hsv⟩:∃sv,sv=kE T:=⟨_,rfl⟩
 have YN:Hid (∀u,Below w1.heap.size w1 u→Calls Tryz.prog 15 #[ptr r] u (gu u sv)):=fun u hb=>by
  rw[hsv]
  exact Kk u (Tc.out.below hb (Nat.le_refl _)) Ag.out.1
 have hsl:sv.length≤84160002:=by rw[hsv];exact Kh Ag.out.1 fun k x hx=>by have:=Ag.out.1.few hx;omega
 have h2l:2≤sv.length:=by rw[hsv];unfold kE;rw[List.length_append,dO];omega
 have HSV:=Lib.hid hsv
 clear hsv
 go_wp2_with fail
 (with_reducible refine(YN.out _ (Below.refl _ _)).mono ?_)
 rintro e w2 ⟨xa,xc,rfl,hown,hb2⟩
 obtain⟨g,cur,rfl,hg1,hg2,hcur,hrow,YO⟩:=NQ hown (by omega)
 have hB2:=HB1.out.trans (hb2.mono HB1.out.size)
 have HB2:=Lib.hid hb2
 have VA:=Lib.hid hcur
 have J5:=Lib.hid hrow
 obtain⟨L,hL⟩:∃L,L=sv.length:=⟨_,rfl⟩
 have CW:=Lib.hid hL
 have hkb:=zm a2 0 ((L:Int)-1) (by omega)
 have KJ:=Lib.hid (fun u=>zn a2 0 ((L:Int)-1) u HW2.out (by omega) (by omega) (by omega))
 obtain⟨ki,hki⟩:∃ki,ki=kr a2 0 ((L:Int)-1):=⟨_,rfl⟩
 rw[←hki]at hkb KJ
 obtain⟨k,rfl⟩:∃k:Nat,ki=k:=⟨ki.toNat,by omega⟩
 have hkL:k<L:=by omega
 have hks:k<sv.length:=by omega
 have ewl:IntKind.i64.wrap ((L:Int)-1)=(L:Int)-1:=IntWalk.i64_in _ (by omega)
 obtain⟨b0,hb0⟩:∃b0,sv[k]? =some b0:=⟨_,List.getElem?_eq_getElem hks⟩
 have hc0:w2.cell? ⟨g,k,none⟩=some (.int .u8 (b0.toNat:Int)):=by
  obtain⟨b',off',e1,_,_,hc⟩:=hrow.at_ (by omega)
  cases e1
  have h9:=hc k hks
  rw[Nat.zero_add]at h9
  rw[h9,List.getElem?_map,hb0]
  rfl
 have hfz:w2.frozen? ⟨g,k,none⟩=false:=aj.frozen VA.out rfl
 obtain⟨z,hz⟩:=YL (b0.toNat:Int) a3
 have IX:Hid (aj (fun x=>x=g) (w2.setCell ⟨g,k,none⟩ (.int .u8 (bits .xor .u8 (b0.toNat:Int) a3))) (some ⟨g,0,none⟩) L ((sv.set k z).map bv)):=by
  have h9:=hrow.iG hks (.int .u8 (bits .xor .u8 (b0.toNat:Int) a3))
  rw[Nat.zero_add]at h9
  rw[List.map_set,hL]
  have e9:bv z= .int .u8 (bits .xor .u8 (b0.toNat:Int) a3):=by rw[hz]
  rw[e9]
  exact h9
 have HB3:Hid (Below w1.heap.size w1 (w2.setCell ⟨g,k,none⟩ (.int .u8 (bits .xor .u8 (b0.toNat:Int) a3)))):=HB2.out.setCell hg1 _
 rw[←hL]at hsl h2l YO⊢
 have hkc:k≤xc:=by omega
 have i0:(0:Int)≤(k:Int):=by omega
 have i1:(k:Int)<(L:Int):=by omega
 clear hown hb2 hcur hrow hki hkb hL hb0 hz hB2 hks
 go_wp2_with fail
 (with_reducible refine(KJ.out _).mono ?_)
 rintro e _ ⟨rfl,rfl⟩
 go_upto_if 43 with(fail)
 obtain⟨w3,hw3⟩:∃w3,w3=w2.setCell ⟨g,k,none⟩ (.int .u8 (bits .xor .u8 (b0.toNat:Int) a3)):=⟨_,rfl⟩
 rw[←hw3]at IX HB3⊢
 have hg3:g<w3.heap.size:=by rw[hw3,size_set];exact hg2
 clear hw3 hc0 hfz J5 VA HB2
 go_cut [13] (fun xv wx=>∃n y,xv= .slice (some ⟨g,0,none⟩) n xc∧n≤L∧aj (fun x=>x=g) w3 (some ⟨g,0,none⟩) n ((y:List UInt8).map bv)∧w3=wx)
 case first=>
  cases a4
  ·go_wp2_with fail
   go_meet
   exact⟨L,_,rfl,Nat.le_refl _,IX.out,rfl⟩
  ·go_wp2_with fail
   go_meet
   refine⟨k,(sv.set k z).take k,rfl,by omega,?_,rfl⟩
   have h:=IX.out.take k
   rw[Nat.min_eq_right (by omega),←List.map_take]at h
   exact h
 case rest=>
  obtain⟨n,y,rfl,hnL,hrx,rfl⟩:=hcut
  have YP:=Lib.hid hrx
  have hnc:n≤xc:=by omega
  clear hrx IX
  have Td:Hid (∀u:World,Calls Tryz.prog 12 #[.slice ba bn bc, .int .i64 100] u fun e w'=>e= .returned (.slice ba (min bn 100) bc)∧u=w'):=fun u=>CF ba bn bc 100 hbc (by omega) Wj.out.small u
  have Te:Hid (∀u:World,Calls Tryz.prog 12 #[.slice ba bn bc, .int .i64 3] u fun e w'=>e= .returned (.slice ba (min bn 3) bc)∧u=w'):=fun u=>CF ba bn bc 3 hbc (by omega) Wj.out.small u
  obtain⟨m1,hm1⟩:∃m,m=min bn 100:=⟨_,rfl⟩
  obtain⟨m3,NT⟩:∃m,m=min bn 3:=⟨_,rfl⟩
  have Ka:Hid (∀u,Below w1.heap.size w1 u→aj (Old W) u ba m1 ((bs.take 100).map bv)∧aj (Old W) u ba m3 ((bs.take 3).map bv)):=fun u hb=>by
   have h:=Wj.out.below (HB1.out.trans (hb.mono HB1.out.size)) (Nat.le_refl _)
   have h1:=h.take 100
   have h3:=h.take 3
   rw[←hm1,←List.map_take]at h1
   rw[←NT,←List.map_take]at h3
   exact⟨h1,h3⟩
  rw[←hm1]at Td
  rw[←NT]at Te
  have YQ:m1≤100∧m1≤bc:=by omega
  have hm3b:m3≤3∧m3≤bc:=by omega
  have HXA:Hid (aj (fun x=>x=g) (w3.alloc (.cells #[] 5)) (some ⟨g,0,none⟩) n (y.map bv)):=YP.out.below (wall w3 _) (Nat.le_refl _)
  clear hm1 NT
  go_wp2_with fail
  (with_reducible refine(Td.out _).mono ?_)
  rintro e _ ⟨rfl,rfl⟩
  go_wp2_with (at_builtin;go_loud (refine aW rfl _ _ 23 rfl w3.heap.size 5 i8 _ 1 Tryz.underlying23 HI.out.1 HI.out.2.1 HI.out.2.2.1 HI.out.2.2.2 rfl (.slice (some ⟨w3.heap.size,0,none⟩) 0 0) 0 ([]) rfl (Nb (MapKept.heap_alloc w3 _).1 (Nat.le_refl _)) (some ⟨g,0,none⟩) n xc (y.map bv) rfl HXA.out (fq _) (by unfold maxLen;omega) (by omega) (by simp) ?_;intro A2 c2 u2 hown hg _ hat;simp only[Nat.zero_add,List.nil_append]at hown hat⊢;have I6:=Lib.hid hown;have Qm:=Lib.hid (fZ hg (uW w3) (wall w3 _));clear hown hg hat))
  have VB:=Lib.hid (Ka.out u2 (HB3.out.trans (Qm.out.mono HB3.out.size)))
  (with_reducible refine(Te.out _).mono ?_)
  rintro e _ ⟨rfl,rfl⟩
  go_wp2_with (at_builtin;go_loud (refine aW rfl _ _ 23 rfl w3.heap.size 5 i8 _ 1 Tryz.underlying23 HI.out.1 HI.out.2.1 HI.out.2.2.1 HI.out.2.2.2 rfl (.slice A2 n c2) n (y.map bv) rfl I6.out ba m3 bc ((bs.take 3).map bv) rfl VB.out.2 (fq _) (by unfold maxLen;omega) (by omega) Qm.out.size ?_;intro A4 c4 u4 hown hg _ hat;have Ve:=Lib.hid hown;have Qn:=Lib.hid (fZ hg (fun b hb=>eu I6.out b hb) Qm.out);clear hown hg hat))
  have hB4:=HB3.out.trans (Qn.out.mono HB3.out.size)
  have hs4:=Qn.out.size
  obtain⟨w8,hw8⟩:∃w8,w8=u4.alloc (.cells #[.slice (some ⟨g,0,none⟩) n xc, .slice ba m1 bc, .slice A4 (n+m3) c4] 23):=⟨_,rfl⟩
  have vv:Below u4.heap.size u4 w8:=by rw[hw8];exact wall u4 _
  have Ip:u4.heap.size<w8.heap.size:=by rw[hw8];simp
  have sZ:=Lib.hid (hB4.trans (vv.mono hB4.size))
  have nU:Hid (∀j,j<3→∃v,w8.cell? ⟨u4.heap.size,j,none⟩=some v∧Qk w8 v):=fun j hj=>by
   have hcc:w8.cell? ⟨u4.heap.size,j,none⟩=(#[Value.slice (some ⟨g,0,none⟩) n xc, .slice ba m1 bc, .slice A4 (n+m3) c4]:Array Value)[j]? :=by
    rw[hw8]
    simp only[World.cell?,(MapKept.heap_alloc u4 _).1]
    first|rfl|simp
   have h4:(y.map bv)++((bs.take 3).map bv)=(y++bs.take 3).map bv:=by simp
   have hr4:=aj.jI Ve.out
   rw[h4]at hr4
   match j,hj with
   |0,_=>exact⟨_,by rw[hcc];rfl,_,n,xc,y,rfl,hnc,by omega,(YP.out.below (Qn.out.trans (vv.mono hs4)) (Nat.le_refl _)).mono fun b hb=>by subst hb;omega⟩
   |1,_=>exact⟨_,by rw[hcc];rfl,ba,m1,bc,bs.take 100,rfl,YQ.2,by omega,(Ka.out _ sZ.out).1.mono fun b hb=>by have:=HB1.out.size;have:=sZ.out.size;omega⟩
   |2,_=>exact⟨_,by rw[hcc];rfl,A4,n+m3,c4,y++bs.take 3,rfl,by obtain⟨a9,c9,e9,h9⟩:=gU Ve.out;cases e9;exact h9,by omega,(hr4.2.below vv (Nat.le_refl _)).mono fun b hb=>by omega⟩
  have HSZ:=Lib.hid Ip
  rw[←hw8]
  clear hw8 vv Ve Qn Qm I6 VB HXA YP hB4 Td Te Ka hs4 Wj
  go_loopw [58] (fun iv wr=>∃j:Nat,iv= .int .i64 j∧j≤3∧Below w8.heap.size w8 wr) (fun iv _=>3-(intOf iv).toNat)
  case atStart=>exact⟨0,rfl,by omega,Below.refl _ _⟩
  case round=>
   obtain⟨j,rfl,hj,hB⟩:=hrel
   have Fh:=Lib.hid hB
   have Ii:=hB.size
   clear hB
   by_cases hlt:j<3
   ·have hd1:decide ((j:Int)<3)=true:=by simp;omega
    obtain⟨v,hcv,an,nn,cc,yy,rfl,hnc',hn9,hry⟩:=nU.out j hlt
    have c0:wr.cell? ⟨u4.heap.size,j,none⟩=some (.slice an nn cc):=(Fh.out.cell (p:=⟨u4.heap.size,j,none⟩) Ip).trans hcv
    have Tf:=hry.below Fh.out (Nat.le_refl _)
    have j0:(0:Int)≤(j:Int):=by omega
    have j1:(j:Int)<3:=by omega
    have HRY:=Lib.hid Tf
    have HRO:=Lib.hid (KC an nn cc yy 165 165 rfl wr Tf (by omega))
    obtain⟨wo,rfl⟩:∃wo:World,wo=wr:=⟨_,rfl⟩
    have HJ:=Lib.hid hlt
    clear hcv hry Tf hlt hj
    go_wp2_with fail
    (with_reducible refine HRO.out.mono ?_)
    clear HRO c0
    rintro e w9 ⟨gf,rfl,hgf,PV,zw⟩
    have Tg:yy.length=nn:=by have:=HRY.out.length;simpa using this
    have hrl:(pV yy 165).length=nn+80:=by unfold pV;simp[Tg]
    have hfr:=KF PV hrl (by unfold maxLen;omega)
    have hft:=hfr.take nn
    rw[Nat.min_eq_right (by omega),←List.map_take,G_ yy 165 Tg]at hft
    have HFR:=Lib.hid hfr
    have CG:=Lib.hid (Fh.out.trans (zw.mono Fh.out.size))
    have VD:=Lib.hid (HRY.out.below zw (Nat.le_refl _))
    have QE:=Lib.hid (BR (some ⟨gf,0,none⟩) nn (nn+80) yy w9 (by omega) hft)
    have hgw:=(Array.getElem?_eq_some_iff.1 PV).1
    have hwo:=Fh.out.size
    have hb9s:=zw.size
    have hn80:nn≤nn+80:=by omega
    have hi0:(0:Int)≤(nn:Int):=by omega
    have hi1:(nn:Int)≤(nn:Int)+80:=by omega
    have hi2:(nn:Int)≤((nn+80:Nat):Int):=by omega
    have Wm:Hid (∀u,Below w9.heap.size w9 u→Calls Tryz.prog 18 #[.slice (some ⟨gf,0,none⟩) (nn+80) (nn+80), .slice an nn cc, .int .u8 165] u (xL u true)):=fun u hb=>
     Hf (some ⟨gf,0,none⟩) an nn (nn+80) cc yy 165 165 rfl u (HFR.out.below hb (Nat.le_refl _)) (Nat.le_refl _) (VD.out.below hb (Nat.le_refl _)) (by omega)
    clear PV Tg hrl hfr hft zw hgf
    go_wp2_with fail
    (with_reducible refine QE.out.mono ?_)
    clear QE
    rintro e Es hld
    rcases hld with⟨T',p,hpar,hright,rfl,hN⟩|⟨hno,rfl,lU⟩
    ·obtain⟨Q5,hpt⟩:=BI hpar
     have hok:=GZ hpt hright
     have lU:Below w9.heap.size w9 Es:=by obtain⟨_,_,_,_,_,_,_,_,h⟩:=hN;exact h
     have hW9:Below W.heap.size W w9:=(HB1.out.trans (sZ.out.mono HB1.out.size)).trans (CG.out.mono (Nat.le_trans HB1.out.size sZ.out.size))
     have HTI:=Lib.hid (Ql hN hW9 hok.1)
     have HOW:=Lib.hid hok
     have FE:Hid (∀k x,ah k T'=some x→x.names.length≤65535):=fun k x hx=>(hpt.get hx).few
     have VE:=Lib.hid Q5
     have ow:=Lib.hid lU
     clear hpar hright hN Q5 hpt hok lU hW9 Tc
     go_wp2_with fail
     (with_reducible refine(Wm.out _ ow.out).mono ?_)
     rintro e _ ⟨rfl,q,rfl⟩
     have tC:=Lib.hid (YM ow.out q)
     have Ti:=Lib.hid (HTI.out.grow (YM (Below.refl _ _) q))
     obtain⟨CY,NR⟩:∃CY,CY=Es.drewN q:=⟨_,rfl⟩
     rw[←NR]at tC Ti⊢
     have Q6:=Lib.hid (VD.out.below tC.out (Nat.le_refl _))
     clear NR HTI ow Wm
     go_wp2_with fail
     have YR:=Lib.hid (Ti.out.grow (Below.refl _ _).drew)
     have YS:=Lib.hid (Q6.out.below (Below.refl _ _).drew (Nat.le_refl _))
     have YT:=Lib.hid (tC.out.trans (((Below.refl _ _).drew).mono tC.out.size))
     clear Ti Q6 tC
     refine KQ ((fun w'=>(convert 23 9 (.slice an nn cc)).run Tryz.prog w'= .ok (.string (strOf yy)) w')) ?_ fun hS=> ?_
     ·exact lq (c:=cc) YS.out
     refine dJ 0 hS ?_
     refine dJ 3 hS ?_
     refine dJ 4 hS ?_
     have Va:=Lib.hid (Nk YR.out FE.out)
     rw[←VE.out]at Va
     refine sw 1 fun K hK=> ?_
     go_simp
     (with_reducible refine Va.out.mono ?_)
     rintro e Zz ⟨ra,rn,rc,rfl,hrc,hrr,J7⟩
     have HRR:=Lib.hid hrr
     have NS:=Lib.hid (YS.out.below J7 (Nat.le_refl _))
     have M4:=Lib.hid (YT.out.trans (J7.mono YT.out.size))
     have Q7:=Lib.hid (YR.out.grow J7)
     clear hrr J7 Va YR YS YT
     go_wp2_with fail
     refine sD hK (lq (c:=cc) NS.out) fun hS=> ?_
     clear hK K
     refine wS (S':=fun w'=>(convert 23 9 (.slice an nn cc)).run Tryz.prog w'= .ok (.string (strOf yy)) w'∧(convert 23 9 (.slice ra rn rc)).run Tryz.prog w'= .ok (.string (strOf yy)) w') (fun _ h=>h.1) _ _ _ _ ?_
     have VF:=And.intro hS (lq (c:=rc) HRR.out)
     clear hS
     have hS:=VF
     clear VF
     refine dJ 2 hS ?_
     refine dJ 5 hS ?_
     refine dJ 6 hS ?_
     refine dJ 7 hS ?_
     have Oa:=Lib.hid (D7 Q7.out HOW.out)
     refine sw 8 fun K hK=> ?_
     go_simp
     (with_reducible refine Oa.out.mono ?_)
     rintro e w13 ⟨rfl,Qo⟩
     have VG:=Lib.hid (NS.out.below Qo (Nat.le_refl _))
     have VH:=Lib.hid (HRR.out.below Qo (Nat.le_refl _))
     have YU:=Lib.hid (M4.out.trans (Qo.mono M4.out.size))
     clear Qo Oa Q7 NS HRR M4
     go_wp2_with fail
     refine sD hK (⟨lq (c:=cc) VG.out,lq (c:=rc) VH.out⟩) fun hS=> ?_
     clear hK K
     refine dJ 9 hS ?_
     refine dJ 10 hS ?_
     refine KP ?_
     clear hS
     go_wp2_with fail
     go_roundw
     case rel=>exact⟨j+1,by go_num,by have:=HJ.out;omega,CG.out.trans (YU.out.mono CG.out.size)⟩
     case measure=>have:=HJ.out;simp[intOf];omega
    ·have ow:=Lib.hid lU
     clear hno lU Tc
     go_wp2_with fail
     (with_reducible refine(Wm.out _ ow.out).mono ?_)
     rintro e _ ⟨rfl,q,rfl⟩
     have tC:=Lib.hid (YM ow.out q)
     obtain⟨CY,NR⟩:∃CY,CY=Es.drewN q:=⟨_,rfl⟩
     rw[←NR]at tC⊢
     clear NR ow Wm
     go_wp2_with fail
     go_roundw
     case rel=>exact⟨j+1,by go_num,by have:=HJ.out;omega,CG.out.trans (tC.out.mono CG.out.size)⟩
     case measure=>have:=HJ.out;simp[intOf];omega
   ·have hd1:decide ((j:Int)<3)=false:=by simp;omega
    have Qp:=Lib.hid (sZ.out.trans (Fh.out.mono sZ.out.size))
    obtain⟨wo,rfl⟩:∃wo:World,wo=wr:=⟨_,rfl⟩
    clear hlt hj Fh
    go_wp2_with fail
    (with_reducible refine(YN.out _ Qp.out).mono ?_)
    rintro e YV ⟨sa,sc,rfl,hown,VI⟩
    have hrow:=gq hown
    obtain⟨Ls,hLs⟩:∃Ls,Ls=sv.length:=⟨_,rfl⟩
    have QE:=Lib.hid (BR sa sv.length sc sv YV (by rw[←CW.out];omega) hrow)
    have Tj:=Lib.hid (Qp.out.trans (VI.mono Qp.out.size))
    rw[←hLs]at QE⊢
    clear hown VI hrow hLs YN Qp
    go_wp2_with fail
    (with_reducible refine QE.out.mono ?_)
    rintro e w15 hld
    rw[HSV.out]at hld
    obtain⟨p,rfl,hN⟩:=Ta hld Ag.out
    have VJ:Below YV.heap.size YV w15:=by obtain⟨_,_,_,_,_,_,_,_,h⟩:=hN;exact h
    have Tk:=Lib.hid (Tj.out.trans (VJ.mono Tj.out.size))
    clear hld hN VJ QE Tj
    go_wp2_with fail
    (with_reducible refine(EC _).mono ?_)
    rintro e w16 ⟨rfl,VK⟩
    have YW:=Lib.hid (Tk.out.trans (VK.mono Tk.out.size))
    clear VK Tk
    go_wp2_with fail
    go_ret
    exact⟨rfl,HB1.out.trans (YW.out.mono HB1.out.size)⟩
end Go.Proofs.YtjnhnlabpccgjaaGreat.treeLoads
