/- The reference: Rmdir. The reference: Read. The reference: Keep, Seal. The reference: Seal. -/
import Derived.Test.YtmabllemjkcobaaGreatM25
namespace Go.Proofs.YtmabllemjkcobaaGreat
open Go.ChangeShapes Go.WideShapes Go.ChangeAt Go.RowKit
set_option linter.unusedVariables false
set_option linter.unusedSimpArgs false
theorem qU {T:aG} {p:List Nm} {v:Int} (h:iQ T p=v) (hv:v≠0):dG T p=(v,T):=by
 unfold dG
 rw[h,if_neg hv]
section
variable {F:Nat→Prop} {r:Nat} {T:aG}
set_option maxRecDepth 100000 in
set_option maxHeartbeats 8000000 in
theorem Ac {S:Nat→Prop} (a:Option Addr) (n c:Nat) (ls:List Nm) (w:World) (h:iq F w r T) (hT:dX T) (hS:aK S w a n (ls.map strOf)) (hc:n≤c) (kV:n≤1000000):
  Calls Tryz.prog 16 #[ptr r, .slice a n c] w (bX F w r (dG T ls).2 (.int .i64 (dG T ls).1)):=by
 have hE:(aT T).length≤1000000:=by have:=gQ hT;omega
 have hln:ls.length=n:=by have:=hS.length;simpa using this
 have H1:=Lib.hid (tQ a n c ls w h hT hE hS)
 have H3:=Lib.hid (fun w1 (hb:Below w.heap.size w w1)=>lF a n c ls w1 (h.below hb (Nat.le_refl _)) hT hE (hS.below hb (Nat.le_refl _)) hc kV)
 have H4:=Lib.hid (fun w1 (hb:Below w.heap.size w w1) id=>xB id w1 (h.below hb (Nat.le_refl _)) hT)
 have H5:=Lib.hid (fun w1 (hb:Below w.heap.size w w1) d nm=>jG d nm w1 (h.below hb (Nat.le_refl _)) hE)
 have HH:=Lib.hid h
 have HT:=Lib.hid hT
 have hr0:=h.low r h.own
 by_cases h1:(fE T ls).2=0
 ·have Ab:=Aa h1
  rw[Ab]at h1 H1
  have hl2:aH T 0 ls=((aH T 0 ls).1,0):=Prod.ext rfl h1
  obtain⟨y,hy⟩:=Option.isSome_iff_exists.1 (fP hT ls 0 (eF hT) h1)
  have hue:iQ T ls=if y.kind≠2 then 23 else if (aH T 0 ls).1=0 then 1 else if 0<y.names.length then 24 else 0:=by
   unfold iQ
   rw[Ab,if_neg (by rw[h1];simp),bQ hy,dK hy]
  obtain⟨id,hid⟩:∃id,id=(aH T 0 ls).1:=⟨_,rfl⟩
  rw[←hid]at hl2 hy hue
  rw[hl2]at H1
  simp only at H1
  have G9:=Lib.hid (fun w1 hb=>H4.out w1 hb id)
  have hlm:mX T id=if y.kind=2 then(y.names.map (·.1),0)else([],23):=by unfold mX;rw[hy]
  rw[hlm]at G9
  by_cases h2:y.kind=2
  ·rw[if_pos h2]at G9
   rw[if_neg (by simpa using h2)]at hue
   by_cases h3:ls=[]
   ·have rH:id=0:=by rw[hid,h3];rfl
    rw[if_pos rH]at hue
    have hn0:n=0:=by rw[←hln,h3];rfl
    have HQ:=Lib.hid (qU hue (by omega))
    subst hn0
    clear h hT hS hE H4 Ab h1 hl2 hue hid hy h2 hlm h3 rH hln hc
    go_enter Tryz.func16,Tryz.ntmps16
    go_wp2_with fail
    (with_reducible refine H1.out.mono ?_)
    rintro e w1 ⟨rfl,hb1⟩
    have HB1:=Lib.hid hb1
    clear hb1
    go_wp2_with fail
    (with_reducible refine(G9.out w1 HB1.out).mono ?_)
    rintro e w3 ⟨al,cl,rfl,-,-,hb3⟩
    have HB3:=Lib.hid (HB1.out.trans (hb3.mono HB1.out.size))
    clear hb3
    simp only[List.length_map]
    go_wp2_with fail
    go_ret
    exact bX.no HH.out HB3.out HQ.out
   ·have rH:id≠0:=fun e=>by
     obtain⟨d,x,n1,_,_,hx,_,hxn,_,-⟩:=dB hl2 h3
     exact(hT.leads d x hx _ (bP hxn)).2 e
    rw[if_neg rH]at hue
    have hn0:((n:Int)==0)=false:=by
     have:ls.length≠0:=fun e=>h3 (List.eq_nil_of_length_eq_zero e)
     simp;omega
    obtain⟨m,hm⟩:∃m,m=y.names.length:=⟨_,rfl⟩
    have hml:(y.names.map (·.1)).length=m:=by rw[List.length_map,hm]
    rw[←hm]at hue
    by_cases h4:0<m
    ·rw[if_pos h4]at hue
     have HQ:=Lib.hid (qU hue (by omega))
     have hd4:decide (0<m)=true:=by simpa using h4
     generalize y.names.map (·.1)=L at*
     subst hml
     clear h hT hS hE H4 Ab h1 hl2 hue hid hy h2 hlm h3 rH hln hc hm
     go_enter Tryz.func16,Tryz.ntmps16
     go_wp2_with fail
     (with_reducible refine H1.out.mono ?_)
     rintro e w1 ⟨rfl,hb1⟩
     have HB1:=Lib.hid hb1
     clear hb1
     go_wp2_with fail
     (with_reducible refine(G9.out w1 HB1.out).mono ?_)
     rintro e w3 ⟨al,cl,rfl,-,-,hb3⟩
     have HB3:=Lib.hid (HB1.out.trans (hb3.mono HB1.out.size))
     clear hb3
     go_wp2_with fail
     go_ret
     exact bX.no HH.out HB3.out HQ.out
    ·rw[if_neg h4]at hue
     have hm0:m=0:=by omega
     have hnil:y.names=[]:=List.eq_nil_of_length_eq_zero (by omega)
     rw[hnil]at G9
     obtain⟨d,x,n1,hp1,hp2,hx,hxk,hxn,hmm,-⟩:=dB hl2 h3
     rw[hp1]at H3
     simp only at H3
     have Oc:id≠d:=fun e=>by rw[e,hx]at hy;cases hy;rw[hnil]at hxn;cases hxn
     have BN:=Lib.hid ((su.of hT).cut d n1)
     obtain⟨k,hk,-⟩:=vU (su.of hT) hx hxn
     have uF:=Lib.hid (fun w1 hb=>H5.out w1 hb d n1)
     rw[hk]at uF
     have He:Hid (∀w4,Below w.heap.size w w4→Calls Tryz.prog 74 #[ptr r, .int .i64 k] w4 (bX F w4 r (aF T d n1) (.tuple #[]))):=fun w4 hb=>by
      obtain⟨k',hk',hc'⟩:=zi d n1 id x w4 (h.below hb (Nat.le_refl _)) (su.of hT) hx hxn
      rw[hk]at hk'
      have:k=k':=by omega
      rw[this]
      exact hc'
     have K_:Hid (aj id (aF T d n1)=some y):=by
      show aj id (aF T d n1)=some y
      unfold aF
      rw[bq,if_neg Oc]
      exact hy
     have Ij:=Lib.hid hnil
     have HQ:Hid (dG T ls=(0,bR id (aF T d n1))):=by
      show dG T ls=_
      unfold dG vv
      rw[hue,hp1,←hid]
      rfl
     clear h hT hS hE H4 H5 Ab h1 hl2 hue hid hy h2 h3 hp1 hp2 hx hxk hxn hmm hk Oc hm0 hnil hml hm h4 hlm hln rH hc
     go_enter Tryz.func16,Tryz.ntmps16
     go_wp2_with fail
     (with_reducible refine H1.out.mono ?_)
     rintro e w1 ⟨rfl,hb1⟩
     have HB1:=Lib.hid hb1
     clear hb1
     go_wp2_with fail
     (with_reducible refine(G9.out w1 HB1.out).mono ?_)
     rintro e w3 ⟨al,cl,rfl,-,-,hb3⟩
     have HB3:=Lib.hid (HB1.out.trans (hb3.mono HB1.out.size))
     clear hb3
     simp only[List.map_nil,List.length_nil]
     go_wp2_with fail
     (with_reducible refine(H3.out _ HB3.out).mono ?_)
     rintro e w4 ⟨rfl,hb4⟩
     have eO:=Lib.hid (HB3.out.trans (hb4.mono HB3.out.size))
     clear hb4
     go_wp2_with fail
     (with_reducible refine(uF.out w4 eO.out).mono ?_)
     rintro e w5 ⟨rfl,rfl⟩
     go_wp2_with fail
     (with_reducible refine(He.out w4 eO.out).mono ?_)
     rintro e w5 QG
     obtain⟨rfl,u7,Bw⟩:=QG
     have EF:=Lib.hid (sw id y w5 Bw BN.out.sorted BN.out.len K_.out Ij.out)
     have Cy:Hid (bX F w4 r (aF T d n1) (.tuple #[]) (.returned (.tuple #[])) w5):=⟨rfl,u7,Bw⟩
     clear u7 Bw
     go_wp2_with fail
     (with_reducible refine EF.out.mono ?_)
     rintro e w6 nC
     have iY:=Lib.hid nC
     obtain rfl:=nC.1
     clear nC
     go_wp2_with fail
     go_ret
     rw[HQ.out]
     exact(dY.behind HH.out.low eO.out (Cy.out.trans (HH.out.below eO.out (Nat.le_refl _)).low iY.out)).val _
  ·rw[if_neg h2]at G9
   rw[if_pos h2]at hue
   have HQ:=Lib.hid (qU hue (by omega))
   clear h hT hS hE H4 Ab h1 hl2 hue hid hy h2 hlm hln hc
   go_enter Tryz.func16,Tryz.ntmps16
   go_wp2_with fail
   (with_reducible refine H1.out.mono ?_)
   rintro e w1 ⟨rfl,hb1⟩
   have HB1:=Lib.hid hb1
   clear hb1
   go_wp2_with fail
   (with_reducible refine(G9.out w1 HB1.out).mono ?_)
   rintro e w3 ⟨al,cl,rfl,-,-,hb3⟩
   have HB3:=Lib.hid (HB1.out.trans (hb3.mono HB1.out.size))
   clear hb3
   simp only[List.length_nil]
   go_wp2_with fail
   go_ret
   exact bX.no HH.out HB3.out HQ.out
 ·have HQ:Hid (dG T ls=((fE T ls).2,T)):=qU (by unfold iQ;rw[if_pos h1]) h1
  generalize fE T ls=lk at*
  obtain⟨id,e1⟩:=lk
  simp only at h1 H1 HQ
  have hne:(e1==0)=false:=by simpa using h1
  have hne2:(e1 !=0)=true:=by simpa using h1
  clear h hT hS hE h1 hln hc
  go_enter Tryz.func16,Tryz.ntmps16
  go_wp2_with fail
  (with_reducible refine H1.out.mono ?_)
  rintro e w1 ⟨rfl,hb1⟩
  have HB1:=Lib.hid hb1
  clear hb1
  go_wp2_with fail
  go_ret
  exact bX.no HH.out HB1.out HQ.out
end
def QK (F:Nat→Prop) (w:World) (bs:List UInt8) (k:Int) (e:Ending) (w':World):Prop:=
 ∃a n c,e= .returned (.tuple #[.slice a n c, .int .i64 k])∧aC F w a n (bs.map bv)∧w=w'
section
variable {F:Nat→Prop} {r:Nat} {T:aG}
set_option maxRecDepth 100000 in
set_option maxHeartbeats 8000000 in
theorem CZ (id at_ n:Int) (w:World) (h:iq F w r T) (hT:yQ T) (hA:(Lit.int .i64 at_).wf=true) (hN:(Lit.int .i64 n).wf=true):Calls Tryz.prog 29 #[ptr r, .int .i64 id, .int .i64 at_, .int .i64 n] w (QK (Off F r) w (nX T id at_ n) (nW T id at_ n)):=by
 have HF:=Lib.hid (qj id w h hT)
 have hr0:=h.low r h.own
 have hfe:dx T id≠0∨dx T id=0:=by omega
 rcases hfe with h0|h0
 ·have e1:nW T id at_ n=dx T id∧nX T id at_ n=[]:=by
   unfold nW nX dx at*
   cases hx:aj id T with
   |none=>simp
   |some x=>
    rw[hx]at h0
    simp only at h0⊢
    by_cases hk:x.kind=2
    ·simp[hk]
    ·rw[if_neg hk]at h0;exact absurd rfl h0
  rw[e1.1,e1.2]
  generalize dx T id=f at*
  have hne:(f==0)=false:=by simpa using h0
  have hne2:(f !=0)=true:=by simpa using h0
  clear h hT e1 h0 hA hN
  go_enter Tryz.func29,Tryz.ntmps29
  go_wp2_with fail
  (with_reducible refine HF.out.mono ?_)
  rintro e w1 ⟨rfl,rfl⟩
  go_wp2_with fail
  go_ret2
  exact⟨none,0,0,rfl,aC.nil _ _ _,rfl⟩
 ·obtain⟨x,hx,hk⟩:∃x,aj id T=some x∧x.kind≠2:=by
   unfold dx at h0
   cases hx:aj id T with
   |none=>rw[hx]at h0;cases h0
   |some x=>
    rw[hx]at h0
    exact⟨x,rfl,fun hk=>by simp[hk]at h0⟩
  obtain⟨k,hi,hq⟩:=jF hT.sorted hx
  have hrf:FB T id=k:=by unfold FB;rw[if_pos h0];exact hi
  rw[hrf,h0]at HF
  have e1:nW T id at_ n=zu at_ n∧nX T id at_ n=zw x.b at_ n:=by
   unfold nW nX
   rw[hx]
   exact⟨if_neg hk,if_neg hk⟩
  rw[e1.1,e1.2]
  obtain⟨b,off,c,a,c',hc1,hO,hb,hcd,hcap,hrow⟩:=h.data (k:=k) (d:=x.b) (by rw[List.getElem?_map,hq];rfl)
  have hkl:k<T.length:=(List.getElem?_eq_some_iff.1 hq).1
  rw[List.length_map]at hc1
  have hlen:=hT.len
  have hsz:=(hT.each id x hx).size
  obtain⟨l,hl⟩:∃l,l=x.b.length:=⟨_,rfl⟩
  rw[←hl]at hcd hcap hrow hsz
  have hcc:=hcap.1
  have i0:(0:Int)≤k:=by omega
  have i1:(k:Int)<T.length:=by omega
  have HR:=Lib.hid hrow
  have HL:=Lib.hid hl
  simp[Lit.wf,IntKind.min,IntKind.max,IntKind.signed,IntKind.bits]at hA hN
  generalize x.b=bs at*
  generalize T.length=tl at*
  clear h hT e1 h0 hx hk hi hq hrf hl hrow hcap
  unfold zu zw
  by_cases h1:at_<0
  ·rw[if_pos (.inl h1),if_pos (.inl h1)]
   go_enter Tryz.func29,Tryz.ntmps29
   go_wp2_with fail
   (with_reducible refine HF.out.mono ?_)
   rintro e w1 ⟨rfl,rfl⟩
   go_wp2_with fail
   go_ret2
   exact⟨none,0,0,rfl,aC.nil _ _ _,rfl⟩
  ·by_cases h2:n<0
   ·rw[if_pos (.inr h2),if_pos (.inr h2)]
    go_enter Tryz.func29,Tryz.ntmps29
    go_wp2_with fail
    (with_reducible refine HF.out.mono ?_)
    rintro e w1 ⟨rfl,rfl⟩
    go_wp2_with fail
    go_ret2
    exact⟨none,0,0,rfl,aC.nil _ _ _,rfl⟩
   ·rw[if_neg (by omega),if_neg (by omega)]
    obtain⟨A,rfl⟩:∃A:Nat,at_=A:=⟨at_.toNat,by omega⟩
    obtain⟨N,rfl⟩:∃N:Nat,n=N:=⟨n.toNat,by omega⟩
    simp only[Int.toNat_natCast]
    have hd1:decide ((A:Int)<0)=false:=by simp
    have hd2:decide ((N:Int)<0)=false:=by simp
    by_cases h3:l≤A
    ·have hd3:decide ((l:Int)≤(A:Int))=true:=by simp;omega
     have Zt:decide (l≤A)=true:=by simpa using h3
     have HE:Hid ((bs.drop A).take N=[]):=by
      show(bs.drop A).take N=[]
      rw[List.drop_of_length_le (by have:=HL.out;omega),List.take_nil]
     go_enter Tryz.func29,Tryz.ntmps29
     go_wp2_with fail
     (with_reducible refine HF.out.mono ?_)
     rintro e w1 ⟨rfl,rfl⟩
     go_wp2_with fail
     go_ret2
     exact⟨none,0,0,rfl,by rw[HE.out];exact aC.nil _ _ _,rfl⟩
    ·have hd3:decide ((l:Int)≤(A:Int))=false:=by simp;omega
     have Zt:decide (l≤A)=false:=by simpa using h3
     obtain⟨b2,off2,rfl,hO2,hb2,-⟩:=HR.out.at_ (by omega)
     have hca:¬c'=A:=by omega
     have e1:IntKind.i64.wrap ((l:Int)-(A:Int))=(l:Int)-(A:Int):=IntWalk.i64_in _ (by omega)
     have i2:(0:Int)≤(A:Int):=by omega
     have i5:(l:Int)≤(c':Int):=by omega
     by_cases h4:l-A<N
     ·have hd4:decide ((l:Int)-(A:Int)<(N:Int))=true:=by simp;omega
      have e2:IntKind.i64.wrap ((A:Int)+((l:Int)-(A:Int)))=(l:Int):=by rw[show(A:Int)+((l:Int)-(A:Int))=l by omega];exact IntWalk.i64_in _ (by omega)
      have i3:(A:Int)≤(l:Int):=by omega
      have HE:Hid ((bs.drop A).take N=(bs.drop A).take (l-A)):=by
       show(bs.drop A).take N=_
       have:=HL.out
       rw[List.take_of_length_le (by simp;omega),List.take_of_length_le (by simp;omega)]
      go_enter Tryz.func29,Tryz.ntmps29
      go_wp2_with fail
      (with_reducible refine HF.out.mono ?_)
      rintro e w1 ⟨rfl,rfl⟩
      go_wp2_with fail
      go_ret2
      refine⟨some ⟨b2,off2+A,none⟩,l-A,_,rfl,?_,rfl⟩
      rw[HE.out,List.map_take,List.map_drop]
      have:=(HR.out.drop A).take (l-A)
      rwa [Nat.min_self]at this
     ·have hd4:decide ((l:Int)-(A:Int)<(N:Int))=false:=by simp;omega
      have e2:IntKind.i64.wrap ((A:Int)+(N:Int))=(A:Int)+(N:Int):=IntWalk.i64_in _ (by omega)
      have i3:(A:Int)≤(A:Int)+(N:Int):=by omega
      have i4:(A:Int)+(N:Int)≤(c':Int):=by omega
      go_enter Tryz.func29,Tryz.ntmps29
      go_wp2_with fail
      (with_reducible refine HF.out.mono ?_)
      rintro e w1 ⟨rfl,rfl⟩
      go_wp2_with fail
      go_ret2
      refine⟨some ⟨b2,off2+A,none⟩,N,c'-A,?_,?_,rfl⟩
      ·show Ending.returned (.tuple #[.slice (some ⟨b2,off2+A,none⟩) (A+N-A) (c'-A), .int .i64 0])=_
       rw[show A+N-A=N by omega]
      ·rw[List.map_take,List.map_drop]
       have:=(HR.out.drop A).take N
       rwa [Nat.min_eq_right (by omega)]at this
end
theorem tY {T:aG} {id aQ v:Int} (h:rA T id aQ=v) (hv:v≠0):eU T id aQ=(v,T):=by
 unfold eU
 rw[h,if_neg hv]
theorem xC {T:aG} {id aQ v:Int} (h:rz T id aQ=v) (hv:v≠0):fA T id aQ=(v,T):=by
 unfold fA
 rw[h,if_neg hv]
section
variable {F:Nat→Prop} {r:Nat} {T:aG}
set_option maxRecDepth 100000 in
set_option maxHeartbeats 8000000 in
theorem C8 (id aQ:Int) (w:World) (h:iq F w r T) (hT:dX T) (ht0:0≤aQ∧aQ≤18446744073709551615):
  Calls Tryz.prog 27 #[ptr r, .int .i64 id, .int .u64 aQ] w (bX F w r (eU T id aQ).2 (.int .i64 (eU T id aQ).1)):=by
 have HF:=Lib.hid (qj id w h hT.toyQ)
 have hr0:=h.low r h.own
 have HH:=Lib.hid h
 by_cases h0:dx T id=0
 ·obtain⟨x,hx,hk⟩:∃x,aj id T=some x∧x.kind≠2:=by
   unfold dx at h0
   cases hx:aj id T with
   |none=>rw[hx]at h0;cases h0
   |some x=>
    rw[hx]at h0
    exact⟨x,rfl,fun hk=>by simp[hk]at h0⟩
  obtain⟨k,hi,hq⟩:=jF hT.sorted hx
  have hrf:FB T id=k:=by unfold FB;rw[if_pos h0];exact hi
  rw[hrf,h0]at HF
  obtain⟨bN,oN,cN,hc0,hO,hbw,hkl,c0,c1,c2,c3,c4,c5⟩:=h.node hq
  simp only at c0 c1 c2 c3 c4 c5
  have i0:(0:Int)≤k:=by omega
  have hlen:=hT.len
  have C9:=Lib.hid hq
  have HS:=Lib.hid hT.sorted
  obtain⟨i6,a6,b6,s6,d6⟩:=info_parts nodeInfo
  have gI:=Lib.hid (And.intro a6 (And.intro b6 (And.intro s6 d6)))
  obtain⟨aN,Xf,aD,cD,aE,cE,h1,h2,h3,h4,h8,h9,h10,h11⟩:=h.head
  obtain⟨p0,p1,p2,pf⟩:=fK h1
  rw[p0]at hc0
  simp only[Option.some.injEq,Value.slice.injEq,true_and]at hc0
  obtain⟨rfl,rfl⟩:=hc0
  have rQ:=Lib.hid h1
  have K8:=Lib.hid h8
  obtain⟨n,hn⟩:∃n,n=T.length:=⟨_,rfl⟩
  rw[←hn]at p0 hlen hkl h2 K8
  have iA:=Lib.hid hn
  have hf0:=pf 0
  have hfp:=hO.2
  have i1:(k:Int)<n:=by omega
  have hrw:=hr0
  have rP:=Lib.hid (hT.each id x hx)
  have HX:=Lib.hid hx
  have hkx:=hk
  clear a6 b6 s6 d6 h1 h8 h9 h10 h11 hi hrf h hq hn p1 p2 pf hO hT h0
  have he:rA T id aQ=if x.closed=false then 25 else if aQ<x.aQ then 28 else if 1099511627776<aQ then 1 else 0:=by
   unfold rA
   rw[hx]
   simp only[if_neg hk]
  clear hx hk hkx
  cases hcl:x.closed with
  |false=>
   rw[hcl]at c5
   have HQ:=Lib.hid (tY (he.trans (if_pos hcl)) (by omega))
   clear hcl he
   go_enter Tryz.func27,Tryz.ntmps27
   go_wp2_with fail
   (with_reducible refine HF.out.mono ?_)
   rintro e w1 ⟨rfl,rfl⟩
   go_wp2_with fail
   go_ret
   exact bX.no HH.out (Below.refl _ _) HQ.out
  |true=>
   rw[hcl]at c5
   rw[if_neg (by rw[hcl];decide)]at he
   by_cases h5:aQ<x.aQ
   ·have HQ:=Lib.hid (tY (he.trans (if_pos h5)) (by omega))
    have hd5:decide (aQ<x.aQ)=true:=by simpa using h5
    clear hcl he
    go_enter Tryz.func27,Tryz.ntmps27
    go_wp2_with fail
    (with_reducible refine HF.out.mono ?_)
    rintro e w1 ⟨rfl,rfl⟩
    go_wp2_with fail
    go_ret
    exact bX.no HH.out (Below.refl _ _) HQ.out
   ·rw[if_neg h5]at he
    have hd5:decide (aQ<x.aQ)=false:=by simpa using h5
    by_cases h6:1099511627776<aQ
    ·have HQ:=Lib.hid (tY (he.trans (if_pos h6)) (by omega))
     have hd6:decide ((1099511627776:Int)<aQ)=true:=by simpa using h6
     clear hcl he
     go_enter Tryz.func27,Tryz.ntmps27
     go_wp2_with fail
     (with_reducible refine HF.out.mono ?_)
     rintro e w1 ⟨rfl,rfl⟩
     go_wp2_with fail
     go_ret
     exact bX.no HH.out (Below.refl _ _) HQ.out
    ·have hd6:decide ((1099511627776:Int)<aQ)=false:=by simpa using h6
     have HQ:Hid (eU T id aQ=(0,bH id (fun x=>{x with aQ:=aQ}) T)):=by
      show eU T id aQ=_
      unfold eU
      rw[he,if_neg h6]
      rfl
     clear hcl he
     go_enter Tryz.func27,Tryz.ntmps27
     go_wp2_with fail
     (with_reducible refine HF.out.mono ?_)
     rintro e w1 ⟨rfl,rfl⟩
     go_upto_region 10 with(fail)
     go_cut [] (fun wx=>dz w r (.slice aD (List.map (fun q:Int×bW=>q.2.b) T).length cD) (.slice aE (aT T).length cE) T wx)
     case first=>
      go_wp2_with ((at_builtin;refine gu rfl _ _ 104 rfl w.heap.size 90 _ _ 6 48 Tryz.underlying104 gI.out.1 gI.out.2.1 gI.out.2.2.1 gI.out.2.2.2 rfl (by omega) _ 0 [] rfl (dJ (MapKept.heap_alloc w _).1 (Nat.le_refl _)) _ n _ (T.flatMap dI) rfl (K8.out.below ((Below.refl _ _).alloc (Nat.le_refl _) _) (Nat.le_refl _)) (eT _) (by unfold maxLen;omega) (by omega) (by simp) ?_;intro A1 c1' w1 hown1 hb1;have hB1:=((Below.refl w.heap.size w).alloc (Nat.le_refl _) _).trans hb1;have hf1:w1.frozen? ⟨r,0,none⟩=false:=(hB1.frozen (p:=⟨r,0,none⟩) hrw).trans hf0;have QL:=(hB1.cell (p:=⟨r,0,none⟩) hrw).trans p0))
      go_meet
      obtain⟨-,hcc,-,hrow2⟩:=nA (w:=w) hown1 (by unfold maxLen;omega) (Nat.le_refl _)
      have hn:=iA.out
      rw[List.nil_append,Nat.zero_add,hn]at hrow2
      rw[Nat.zero_add,hn]at hcc
      have:=dz.Ug hrw rQ.out hB1 hcc hrow2 (kF hown1)
      rw[←hn]at this
      exact this
     case rest=>
      obtain⟨w1,rfl⟩:∃w1:World,w1=wc:=⟨_,rfl⟩
      obtain⟨g,off,c,q0,-,-,hlc,qf,hgr,hg1,hg2,hr1,gf,d0,d1,d2,d3,d4,d5⟩:=hcut.facts C9.out
      rw[←iA.out]at q0
      have ME:=gf (off+k*6+4)
      have HM:=Lib.hid hcut
      have NY:=Lib.hid q0
      clear hcut qf gf hlc
      go_wp2_with fail
      go_ret
      rw[HQ.out]
      have h0:=NY.out
      rw[iA.out]at h0
      have:=dz.jm HM.out (by rw[←iA.out]at h0⊢;exact h0) (k:=k) (j:=4) (q':=(id,{x with aQ:=aQ})) (v:= .int .u64 aQ) C9.out (by omega) rfl
      rw[←Nat.add_assoc]at this
      have h7:=gY.qQ HH.out rQ.out this (.int .i64 0)
      have h8:=ny (f:=fun x:bW=>{x with aQ:=aQ}) HS.out C9.out
      simp only at h8
      rw[h8]at h7
      refine⟨h7.1,h7.2.1,?_⟩
      rw[nQ (fun _=>by exact rfl),lD (fun _=>by exact rfl)]
      exact h7.2.2
 ·have HQ:=Lib.hid (tY (T:=T) (id:=id) (aQ:=aQ) (v:=dx T id) (by
   unfold rA dx at*
   cases hx:aj id T with
   |none=>rfl
   |some x=>
    rw[hx]at h0
    by_cases hk:x.kind=2
    ·simp[hk]
    ·exact absurd (by simp[hk]) h0) h0)
  generalize dx T id=f at*
  have hne:(f==0)=false:=by simpa using h0
  have hne2:(f !=0)=true:=by simpa using h0
  clear h hT h0
  go_enter Tryz.func27,Tryz.ntmps27
  go_wp2_with fail
  (with_reducible refine HF.out.mono ?_)
  rintro e w1 ⟨rfl,rfl⟩
  go_wp2_with fail
  go_ret
  exact bX.no HH.out (Below.refl _ _) HQ.out
end
section
variable {F:Nat→Prop} {r:Nat} {T:aG}
set_option maxRecDepth 100000 in
set_option maxHeartbeats 8000000 in
theorem C_ (id aQ:Int) (w:World) (h:iq F w r T) (hT:dX T) (ht0:0≤aQ∧aQ≤18446744073709551615):
  Calls Tryz.prog 25 #[ptr r, .int .i64 id, .int .u64 aQ] w (bX F w r (fA T id aQ).2 (.int .i64 (fA T id aQ).1)):=by
 have HF:=Lib.hid (qj id w h hT.toyQ)
 have hr0:=h.low r h.own
 have HH:=Lib.hid h
 by_cases h0:dx T id=0
 ·obtain⟨x,hx,hk⟩:∃x,aj id T=some x∧x.kind≠2:=by
   unfold dx at h0
   cases hx:aj id T with
   |none=>rw[hx]at h0;cases h0
   |some x=>
    rw[hx]at h0
    exact⟨x,rfl,fun hk=>by simp[hk]at h0⟩
  obtain⟨k,hi,hq⟩:=jF hT.sorted hx
  have hrf:FB T id=k:=by unfold FB;rw[if_pos h0];exact hi
  rw[hrf,h0]at HF
  obtain⟨bN,oN,cN,hc0,hO,hbw,hkl,c0,c1,c2,c3,c4,c5⟩:=h.node hq
  simp only at c0 c1 c2 c3 c4 c5
  have i0:(0:Int)≤k:=by omega
  have hlen:=hT.len
  have C9:=Lib.hid hq
  have HS:=Lib.hid hT.sorted
  obtain⟨i6,a6,b6,s6,d6⟩:=info_parts nodeInfo
  have gI:=Lib.hid (And.intro a6 (And.intro b6 (And.intro s6 d6)))
  obtain⟨aN,Xf,aD,cD,aE,cE,h1,h2,h3,h4,h8,h9,h10,h11⟩:=h.head
  obtain⟨p0,p1,p2,pf⟩:=fK h1
  rw[p0]at hc0
  simp only[Option.some.injEq,Value.slice.injEq,true_and]at hc0
  obtain⟨rfl,rfl⟩:=hc0
  have rQ:=Lib.hid h1
  have K8:=Lib.hid h8
  obtain⟨n,hn⟩:∃n,n=T.length:=⟨_,rfl⟩
  rw[←hn]at p0 hlen hkl h2 K8
  have iA:=Lib.hid hn
  have hf0:=pf 0
  have hfp:=hO.2
  have i1:(k:Int)<n:=by omega
  have hrw:=hr0
  have rP:=Lib.hid (hT.each id x hx)
  have HX:=Lib.hid hx
  have hkx:=hk
  clear a6 b6 s6 d6 h1 h8 h9 h10 h11 hi hrf h hq hn p1 p2 pf hO hT h0
  have he:rz T id aQ=if x.closed then 27 else if 1099511627776<aQ then 1 else 0:=by
   unfold rz
   rw[hx]
   simp only[if_neg hk]
  clear hx hk
  cases hcl:x.closed with
  |true=>
   rw[hcl]at c5
   have HQ:=Lib.hid (xC (he.trans (if_pos hcl)) (by omega))
   clear hcl he
   go_enter Tryz.func25,Tryz.ntmps25
   go_wp2_with fail
   (with_reducible refine HF.out.mono ?_)
   rintro e w1 ⟨rfl,rfl⟩
   go_wp2_with fail
   go_ret
   exact bX.no HH.out (Below.refl _ _) HQ.out
  |false=>
   rw[hcl]at c5
   rw[if_neg (by rw[hcl];decide)]at he
   by_cases h6:1099511627776<aQ
   ·have HQ:=Lib.hid (xC (he.trans (if_pos h6)) (by omega))
    have hd6:decide ((1099511627776:Int)<aQ)=true:=by simpa using h6
    clear hcl he
    go_enter Tryz.func25,Tryz.ntmps25
    go_wp2_with fail
    (with_reducible refine HF.out.mono ?_)
    rintro e w1 ⟨rfl,rfl⟩
    go_wp2_with fail
    go_ret
    exact bX.no HH.out (Below.refl _ _) HQ.out
   ·have hd6:decide ((1099511627776:Int)<aQ)=false:=by simpa using h6
    have HQ:Hid (fA T id aQ=(0,if x.links=0 then bR id (bH id (fun x:bW=>{x with closed:=true,aQ:=aQ}) T)else(bH id (fun x:bW=>{x with closed:=true,aQ:=aQ}) T))):=by
     show fA T id aQ=_
     unfold fA fT
     rw[he,if_neg h6]
     refine Prod.ext rfl ?_
     show(match aj id (bH id (fun x:bW=>{x with closed:=true,aQ:=aQ}) T)with|none=>(bH id (fun x:bW=>{x with closed:=true,aQ:=aQ}) T)|some x=>if x.links=0∧x.closed=true then bR id (bH id (fun x:bW=>{x with closed:=true,aQ:=aQ}) T)else(bH id (fun x:bW=>{x with closed:=true,aQ:=aQ}) T))=_
     rw[bq,if_pos rfl,HX.out]
     simp only[Option.map_some,and_true]
    clear hcl he
    by_cases h9:x.links=0
    ·rw[if_pos h9]at HQ
     have e9:(x.links==0)=true:=by simpa using h9
     clear h9
     go_enter Tryz.func25,Tryz.ntmps25
     go_wp2_with fail
     (with_reducible refine HF.out.mono ?_)
     rintro e w1 ⟨rfl,rfl⟩
     go_upto_region 8 with(fail)
     go_cut [] (fun wx=>dz w r (.slice aD (List.map (fun q:Int×bW=>q.2.b) T).length cD) (.slice aE (aT T).length cE) T wx)
     case first=>
      go_wp2_with ((at_builtin;refine gu rfl _ _ 104 rfl w.heap.size 90 _ _ 6 48 Tryz.underlying104 gI.out.1 gI.out.2.1 gI.out.2.2.1 gI.out.2.2.2 rfl (by omega) _ 0 [] rfl (dJ (MapKept.heap_alloc w _).1 (Nat.le_refl _)) _ n _ (T.flatMap dI) rfl (K8.out.below ((Below.refl _ _).alloc (Nat.le_refl _) _) (Nat.le_refl _)) (eT _) (by unfold maxLen;omega) (by omega) (by simp) ?_;intro A1 c1' w1 hown1 hb1;have hB1:=((Below.refl w.heap.size w).alloc (Nat.le_refl _) _).trans hb1;have hf1:w1.frozen? ⟨r,0,none⟩=false:=(hB1.frozen (p:=⟨r,0,none⟩) hrw).trans hf0;have QL:=(hB1.cell (p:=⟨r,0,none⟩) hrw).trans p0))
      go_meet
      obtain⟨-,hcc,-,hrow2⟩:=nA (w:=w) hown1 (by unfold maxLen;omega) (Nat.le_refl _)
      have hn:=iA.out
      rw[List.nil_append,Nat.zero_add,hn]at hrow2
      rw[Nat.zero_add,hn]at hcc
      have:=dz.Ug hrw rQ.out hB1 hcc hrow2 (kF hown1)
      rw[←hn]at this
      exact this
     case rest=>
      obtain⟨w1,rfl⟩:∃w1:World,w1=wc:=⟨_,rfl⟩
      obtain⟨g,off,c,q0,-,-,hlc,qf,hgr,hg1,hg2,hr1,gf,d0,d1,d2,d3,d4,d5⟩:=hcut.facts C9.out
      rw[←iA.out]at q0
      have ME:=gf (off+k*6+5)
      have HM:=Lib.hid hcut
      have NY:=Lib.hid q0
      clear hcut qf gf hlc
      go_upto_region 9 with(fail)
      go_cut [] (fun wx=>dz w r (.slice aD (List.map (fun q:Int×bW=>q.2.b) T).length cD) (.slice aE (aT T).length cE) (T.set k (id,({x with closed:=true}:bW))) wx)
      case first=>
       go_wp2_with fail
       go_meet
       have h0:=NY.out
       rw[iA.out]at h0
       have:=dz.jm HM.out (by rw[←iA.out]at h0⊢;exact h0) (k:=k) (j:=5) (q':=(id,{x with closed:=true})) (v:= .bool true) C9.out (by omega) rfl
       rw[←Nat.add_assoc]at this
       exact this
      case rest=>
       clear q0 d0 d1 d2 d3 d4 d5 ME hgr hg1 hg2 hr1
       obtain⟨w2,rfl⟩:∃w2:World,w2=wc:=⟨_,rfl⟩
       have hset:(T.set k (id,({x with closed:=true}:bW)))[k]? =some (id,({x with closed:=true}:bW)):=by
        have hk1:k<T.length:=by have:=iA.out;omega
        rw[List.getElem?_set_self hk1]
       have Xg:=Lib.hid hset
       have Ur:Hid (n=(T.set k (id,({x with closed:=true}:bW))).length):=by
        show n=_
        rw[List.length_set];exact iA.out
       clear hset
       obtain⟨g2,off2,c2z,q0,-,-,hlc,qf,hgr,hg1,hg2,hr1,gf,d0,d1,d2,d3,d4,d5⟩:=hcut.facts Xg.out
       rw[←Ur.out]at q0
       have ME:=gf (off2+k*6+4)
       have D5:=Lib.hid hcut
       have QM:=Lib.hid q0
       clear hcut qf gf hlc
       go_upto_region 10 with(fail)
       go_cut [] (fun wx=>bX F w r (bH id (fun x:bW=>{x with closed:=true,aQ:=aQ}) T) (.tuple #[]) (.returned (.tuple #[])) wx)
       case first=>
        go_wp2_with fail
        go_meet
        have h0:=QM.out
        rw[Ur.out]at h0
        have:=dz.jm D5.out (by rw[←Ur.out]at h0⊢;exact h0) (k:=k) (j:=4) (q':=(id,{x with closed:=true,aQ:=aQ})) (v:= .int .u64 aQ) Xg.out (by omega) rfl
        rw[←Nat.add_assoc]at this
        rw[List.set_set]at this
        have h7:=gY.qQ HH.out rQ.out this (.tuple #[])
        have h8:=ny (f:=fun x:bW=>{x with closed:=true,aQ:=aQ}) HS.out C9.out
        simp only at h8
        rw[h8]at h7
        refine⟨h7.1,h7.2.1,?_⟩
        rw[nQ (fun _=>by exact rfl),lD (fun _=>by exact rfl)]
        exact h7.2.2
       case rest=>
        clear q0 d0 d1 d2 d3 d4 d5 ME hgr hg1 hg2 hr1
        obtain⟨w3,rfl⟩:∃w3:World,w3=wc:=⟨_,rfl⟩
        have HT3:=Lib.hid hcut
        have uP:=hcut.2.2
        have hr3:r<w3.heap.size:=uP.low r uP.own
        have hset:(bH id (fun x:bW=>{x with closed:=true,aQ:=aQ}) T)[k]? =some (id,({x with closed:=true,aQ:=aQ}:bW)):=by
         have h8:=ny (f:=fun x:bW=>{x with closed:=true,aQ:=aQ}) HS.out C9.out
         simp only at h8
         have hk1:k<T.length:=by have:=iA.out;omega
         rw[←h8,List.getElem?_set_self hk1]
        obtain⟨bG,oG,cG,e0,Zu,hbG,Zv,-,-,e2,-,-,-⟩:=uP.node hset
        simp only at e2
        rw[h_,←iA.out]at e0
        have Us:Hid (aj id (bH id (fun x:bW=>{x with closed:=true,aQ:=aQ}) T)=some ({x with closed:=true,aQ:=aQ}:bW)):=by
         show aj id (bH id (fun x:bW=>{x with closed:=true,aQ:=aQ}) T)=_
         rw[bq,if_pos rfl,HX.out]
         rfl
        have HSL:Hid (aS g_ (bH id (fun x:bW=>{x with closed:=true,aQ:=aQ}) T)∧(bH id (fun x:bW=>{x with closed:=true,aQ:=aQ}) T).length≤64):=by
         refine⟨kr _ _ HS.out,?_⟩
         rw[h_,←iA.out]
         exact hlen
        have EF:=Lib.hid (sw id _ w3 uP HSL.out.1 HSL.out.2 Us.out (rP.out.file (rP.out.kind.resolve_right hkx)))
        clear hcut uP hset Zu Zv
        go_wp2_with fail
        (with_reducible refine EF.out.mono ?_)
        rintro e w4 Oe
        have u6:=Lib.hid Oe
        obtain rfl:=Oe.1
        clear Oe
        go_wp2_with fail
        go_ret
        rw[HQ.out]
        exact(HT3.out.trans HH.out.low u6.out).val _
    ·rw[if_neg h9]at HQ
     have e9:(x.links==0)=false:=by simpa using h9
     clear h9
     go_enter Tryz.func25,Tryz.ntmps25
     go_wp2_with fail
     (with_reducible refine HF.out.mono ?_)
     rintro e w1 ⟨rfl,rfl⟩
     go_upto_region 8 with(fail)
     go_cut [] (fun wx=>dz w r (.slice aD (List.map (fun q:Int×bW=>q.2.b) T).length cD) (.slice aE (aT T).length cE) T wx)
     case first=>
      go_wp2_with ((at_builtin;refine gu rfl _ _ 104 rfl w.heap.size 90 _ _ 6 48 Tryz.underlying104 gI.out.1 gI.out.2.1 gI.out.2.2.1 gI.out.2.2.2 rfl (by omega) _ 0 [] rfl (dJ (MapKept.heap_alloc w _).1 (Nat.le_refl _)) _ n _ (T.flatMap dI) rfl (K8.out.below ((Below.refl _ _).alloc (Nat.le_refl _) _) (Nat.le_refl _)) (eT _) (by unfold maxLen;omega) (by omega) (by simp) ?_;intro A1 c1' w1 hown1 hb1;have hB1:=((Below.refl w.heap.size w).alloc (Nat.le_refl _) _).trans hb1;have hf1:w1.frozen? ⟨r,0,none⟩=false:=(hB1.frozen (p:=⟨r,0,none⟩) hrw).trans hf0;have QL:=(hB1.cell (p:=⟨r,0,none⟩) hrw).trans p0))
      go_meet
      obtain⟨-,hcc,-,hrow2⟩:=nA (w:=w) hown1 (by unfold maxLen;omega) (Nat.le_refl _)
      have hn:=iA.out
      rw[List.nil_append,Nat.zero_add,hn]at hrow2
      rw[Nat.zero_add,hn]at hcc
      have:=dz.Ug hrw rQ.out hB1 hcc hrow2 (kF hown1)
      rw[←hn]at this
      exact this
     case rest=>
      obtain⟨w1,rfl⟩:∃w1:World,w1=wc:=⟨_,rfl⟩
      obtain⟨g,off,c,q0,-,-,hlc,qf,hgr,hg1,hg2,hr1,gf,d0,d1,d2,d3,d4,d5⟩:=hcut.facts C9.out
      rw[←iA.out]at q0
      have ME:=gf (off+k*6+5)
      have HM:=Lib.hid hcut
      have NY:=Lib.hid q0
      clear hcut qf gf hlc
      go_upto_region 9 with(fail)
      go_cut [] (fun wx=>dz w r (.slice aD (List.map (fun q:Int×bW=>q.2.b) T).length cD) (.slice aE (aT T).length cE) (T.set k (id,({x with closed:=true}:bW))) wx)
      case first=>
       go_wp2_with fail
       go_meet
       have h0:=NY.out
       rw[iA.out]at h0
       have:=dz.jm HM.out (by rw[←iA.out]at h0⊢;exact h0) (k:=k) (j:=5) (q':=(id,{x with closed:=true})) (v:= .bool true) C9.out (by omega) rfl
       rw[←Nat.add_assoc]at this
       exact this
      case rest=>
       clear q0 d0 d1 d2 d3 d4 d5 ME hgr hg1 hg2 hr1
       obtain⟨w2,rfl⟩:∃w2:World,w2=wc:=⟨_,rfl⟩
       have hset:(T.set k (id,({x with closed:=true}:bW)))[k]? =some (id,({x with closed:=true}:bW)):=by
        have hk1:k<T.length:=by have:=iA.out;omega
        rw[List.getElem?_set_self hk1]
       have Xg:=Lib.hid hset
       have Ur:Hid (n=(T.set k (id,({x with closed:=true}:bW))).length):=by
        show n=_
        rw[List.length_set];exact iA.out
       clear hset
       obtain⟨g2,off2,c2z,q0,-,-,hlc,qf,hgr,hg1,hg2,hr1,gf,d0,d1,d2,d3,d4,d5⟩:=hcut.facts Xg.out
       rw[←Ur.out]at q0
       have ME:=gf (off2+k*6+4)
       have D5:=Lib.hid hcut
       have QM:=Lib.hid q0
       clear hcut qf gf hlc
       go_upto_region 10 with(fail)
       go_cut [] (fun wx=>bX F w r (bH id (fun x:bW=>{x with closed:=true,aQ:=aQ}) T) (.tuple #[]) (.returned (.tuple #[])) wx)
       case first=>
        go_wp2_with fail
        go_meet
        have h0:=QM.out
        rw[Ur.out]at h0
        have:=dz.jm D5.out (by rw[←Ur.out]at h0⊢;exact h0) (k:=k) (j:=4) (q':=(id,{x with closed:=true,aQ:=aQ})) (v:= .int .u64 aQ) Xg.out (by omega) rfl
        rw[←Nat.add_assoc]at this
        rw[List.set_set]at this
        have h7:=gY.qQ HH.out rQ.out this (.tuple #[])
        have h8:=ny (f:=fun x:bW=>{x with closed:=true,aQ:=aQ}) HS.out C9.out
        simp only at h8
        rw[h8]at h7
        refine⟨h7.1,h7.2.1,?_⟩
        rw[nQ (fun _=>by exact rfl),lD (fun _=>by exact rfl)]
        exact h7.2.2
       case rest=>
        clear q0 d0 d1 d2 d3 d4 d5 ME hgr hg1 hg2 hr1
        obtain⟨w3,rfl⟩:∃w3:World,w3=wc:=⟨_,rfl⟩
        have HT3:=Lib.hid hcut
        have uP:=hcut.2.2
        have hr3:r<w3.heap.size:=uP.low r uP.own
        have hset:(bH id (fun x:bW=>{x with closed:=true,aQ:=aQ}) T)[k]? =some (id,({x with closed:=true,aQ:=aQ}:bW)):=by
         have h8:=ny (f:=fun x:bW=>{x with closed:=true,aQ:=aQ}) HS.out C9.out
         simp only at h8
         have hk1:k<T.length:=by have:=iA.out;omega
         rw[←h8,List.getElem?_set_self hk1]
        obtain⟨bG,oG,cG,e0,Zu,hbG,Zv,-,-,e2,-,-,-⟩:=uP.node hset
        simp only at e2
        rw[h_,←iA.out]at e0
        have Us:Hid (aj id (bH id (fun x:bW=>{x with closed:=true,aQ:=aQ}) T)=some ({x with closed:=true,aQ:=aQ}:bW)):=by
         show aj id (bH id (fun x:bW=>{x with closed:=true,aQ:=aQ}) T)=_
         rw[bq,if_pos rfl,HX.out]
         rfl
        have HSL:Hid (aS g_ (bH id (fun x:bW=>{x with closed:=true,aQ:=aQ}) T)∧(bH id (fun x:bW=>{x with closed:=true,aQ:=aQ}) T).length≤64):=by
         refine⟨kr _ _ HS.out,?_⟩
         rw[h_,←iA.out]
         exact hlen
        have EF:=Lib.hid (sw id _ w3 uP HSL.out.1 HSL.out.2 Us.out (rP.out.file (rP.out.kind.resolve_right hkx)))
        clear hcut uP hset Zu Zv
        go_wp2_with fail
        go_ret
        rw[HQ.out]
        exact HT3.out.val _
 ·have HQ:=Lib.hid (xC (T:=T) (id:=id) (aQ:=aQ) (v:=dx T id) (by
   unfold rz dx at*
   cases hx:aj id T with
   |none=>rfl
   |some x=>
    rw[hx]at h0
    by_cases hk:x.kind=2
    ·simp[hk]
    ·exact absurd (by simp[hk]) h0) h0)
  generalize dx T id=f at*
  have hne:(f==0)=false:=by simpa using h0
  have hne2:(f !=0)=true:=by simpa using h0
  clear h hT h0
  go_enter Tryz.func25,Tryz.ntmps25
  go_wp2_with fail
  (with_reducible refine HF.out.mono ?_)
  rintro e w1 ⟨rfl,rfl⟩
  go_wp2_with fail
  go_ret
  exact bX.no HH.out (Below.refl _ _) HQ.out
end
end Go.Proofs.YtmabllemjkcobaaGreat
