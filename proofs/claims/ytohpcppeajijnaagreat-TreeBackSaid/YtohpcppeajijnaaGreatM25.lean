/- The reference: Rmdir. The reference: Read. The reference: Keep, Seal. The reference: Seal. -/
import Derived.Test.YtohpcppeajijnaaGreatM24
namespace Go.Proofs.YtohpcppeajijnaaGreat
open Go.ChangeShapes Go.WideShapes Go.ChangeAt Go.RowKit
set_option linter.unusedVariables false
set_option linter.unusedSimpArgs false
theorem oq {T:aF} {p:List Nm} {v:Int} (h:gV T p=v) (hv:v≠0):bU T p=(v,T):=by
 unfold bU
 rw[h,if_neg hv]
section
variable {F:Nat→Prop} {r:Nat} {T:aF}
set_option maxRecDepth 100000 in
set_option maxHeartbeats 8000000 in
theorem wR {S:Nat→Prop} (a:Option Addr) (n c:Nat) (ls:List Nm) (w:World) (h:gX F w r T) (hT:dG T) (hS:aH S w a n (ls.map strOf)) (hc:n≤c) (jS:n≤1000000):
  Calls Tryz.prog 15 #[ptr r, .slice a n c] w (bC F w r (bU T ls).2 (.int .i64 (bU T ls).1)):=by
 have hE:(aV T).length≤1000000:=by have:=gQ hT;omega
 have hln:ls.length=n:=by have:=hS.length;simpa using this
 have H1:=Lib.hid (qB a n c ls w h hT hE hS)
 have H3:=Lib.hid (fun w1 (hb:Below w.heap.size w w1)=>j3 a n c ls w1 (h.below hb (Nat.le_refl _)) hT hE (hS.below hb (Nat.le_refl _)) hc jS)
 have H4:=Lib.hid (fun w1 (hb:Below w.heap.size w w1) id=>um id w1 (h.below hb (Nat.le_refl _)) hT)
 have H5:=Lib.hid (fun w1 (hb:Below w.heap.size w w1) d nm=>iN d nm w1 (h.below hb (Nat.le_refl _)) hE)
 have HH:=Lib.hid h
 have HT:=Lib.hid hT
 have hr0:=h.low r h.own
 by_cases h1:(eO T ls).2=0
 ·have wQ:=wP h1
  rw[wQ]at h1 H1
  have hl2:aC T 0 ls=((aC T 0 ls).1,0):=Prod.ext rfl h1
  obtain⟨y,hy⟩:=Option.isSome_iff_exists.1 (fA hT ls 0 (dU hT) h1)
  have hue:gV T ls=if y.kind≠2 then 23 else if (aC T 0 ls).1=0 then 1 else if 0<y.names.length then 24 else 0:=by
   unfold gV
   rw[wQ,if_neg (by rw[h1];simp),bI hy,cB hy]
  obtain⟨id,hid⟩:∃id,id=(aC T 0 ls).1:=⟨_,rfl⟩
  rw[←hid]at hl2 hy hue
  rw[hl2]at H1
  simp only at H1
  have CB:=Lib.hid (fun w1 hb=>H4.out w1 hb id)
  have hlm:kT T id=if y.kind=2 then(y.names.map (·.1),0)else([],23):=by unfold kT;rw[hy]
  rw[hlm]at CB
  by_cases h2:y.kind=2
  ·rw[if_pos h2]at CB
   rw[if_neg (by simpa using h2)]at hue
   by_cases h3:ls=[]
   ·have oW:id=0:=by rw[hid,h3];rfl
    rw[if_pos oW]at hue
    have hn0:n=0:=by rw[←hln,h3];rfl
    have HQ:=Lib.hid (oq hue (by omega))
    subst hn0
    clear h hT hS hE H4 wQ h1 hl2 hue hid hy h2 hlm h3 oW hln hc
    go_enter Tryz.func15,Tryz.ntmps15
    go_wp2_with fail
    (with_reducible refine H1.out.mono ?_)
    rintro e w1 ⟨rfl,hb1⟩
    have HB1:=Lib.hid hb1
    clear hb1
    go_wp2_with fail
    (with_reducible refine(CB.out w1 HB1.out).mono ?_)
    rintro e w3 ⟨al,cl,rfl,-,-,hb3⟩
    have HB3:=Lib.hid (HB1.out.trans (hb3.mono HB1.out.size))
    clear hb3
    simp only[List.length_map]
    go_wp2_with fail
    go_ret
    exact bC.no HH.out HB3.out HQ.out
   ·have oW:id≠0:=fun e=>by
     obtain⟨d,x,n1,_,_,hx,_,hxn,_,-⟩:=bS hl2 h3
     exact(hT.leads d x hx _ (bR hxn)).2 e
    rw[if_neg oW]at hue
    have hn0:((n:Int)==0)=false:=by
     have:ls.length≠0:=fun e=>h3 (List.eq_nil_of_length_eq_zero e)
     simp;omega
    obtain⟨m,hm⟩:∃m,m=y.names.length:=⟨_,rfl⟩
    have hml:(y.names.map (·.1)).length=m:=by rw[List.length_map,hm]
    rw[←hm]at hue
    by_cases h4:0<m
    ·rw[if_pos h4]at hue
     have HQ:=Lib.hid (oq hue (by omega))
     have hd4:decide (0<m)=true:=by simpa using h4
     generalize y.names.map (·.1)=L at*
     subst hml
     clear h hT hS hE H4 wQ h1 hl2 hue hid hy h2 hlm h3 oW hln hc hm
     go_enter Tryz.func15,Tryz.ntmps15
     go_wp2_with fail
     (with_reducible refine H1.out.mono ?_)
     rintro e w1 ⟨rfl,hb1⟩
     have HB1:=Lib.hid hb1
     clear hb1
     go_wp2_with fail
     (with_reducible refine(CB.out w1 HB1.out).mono ?_)
     rintro e w3 ⟨al,cl,rfl,-,-,hb3⟩
     have HB3:=Lib.hid (HB1.out.trans (hb3.mono HB1.out.size))
     clear hb3
     go_wp2_with fail
     go_ret
     exact bC.no HH.out HB3.out HQ.out
    ·rw[if_neg h4]at hue
     have hm0:m=0:=by omega
     have hnil:y.names=[]:=List.eq_nil_of_length_eq_zero (by omega)
     rw[hnil]at CB
     obtain⟨d,x,n1,hp1,hp2,hx,hxk,hxn,hmm,-⟩:=bS hl2 h3
     rw[hp1]at H3
     simp only at H3
     have IV:id≠d:=fun e=>by rw[e,hx]at hy;cases hy;rw[hnil]at hxn;cases hxn
     have yc:=Lib.hid ((pV.of hT).cut d n1)
     obtain⟨k,hk,-⟩:=sK (pV.of hT) hx hxn
     have qZ:=Lib.hid (fun w1 hb=>H5.out w1 hb d n1)
     rw[hk]at qZ
     have CF:Hid (∀w4,Below w.heap.size w w4→Calls Tryz.prog 69 #[ptr r, .int .i64 k] w4 (bC F w4 r (aA T d n1) (.tuple #[]))):=fun w4 hb=>by
      obtain⟨k',hk',hc'⟩:=vJ d n1 id x w4 (h.below hb (Nat.le_refl _)) (pV.of hT) hx hxn
      rw[hk]at hk'
      have:k=k':=by omega
      rw[this]
      exact hc'
     have IQ:Hid (aj id (aA T d n1)=some y):=by
      show aj id (aA T d n1)=some y
      unfold aA
      rw[aQ,if_neg IV]
      exact hy
     have Ig:=Lib.hid hnil
     have HQ:Hid (bU T ls=(0,bg id (aA T d n1))):=by
      show bU T ls=_
      unfold bU rR
      rw[hue,hp1,←hid]
      rfl
     clear h hT hS hE H4 H5 wQ h1 hl2 hue hid hy h2 h3 hp1 hp2 hx hxk hxn hmm hk IV hm0 hnil hml hm h4 hlm hln oW hc
     go_enter Tryz.func15,Tryz.ntmps15
     go_wp2_with fail
     (with_reducible refine H1.out.mono ?_)
     rintro e w1 ⟨rfl,hb1⟩
     have HB1:=Lib.hid hb1
     clear hb1
     go_wp2_with fail
     (with_reducible refine(CB.out w1 HB1.out).mono ?_)
     rintro e w3 ⟨al,cl,rfl,-,-,hb3⟩
     have HB3:=Lib.hid (HB1.out.trans (hb3.mono HB1.out.size))
     clear hb3
     simp only[List.map_nil,List.length_nil]
     go_wp2_with fail
     (with_reducible refine(H3.out _ HB3.out).mono ?_)
     rintro e w4 ⟨rfl,hb4⟩
     have dX:=Lib.hid (HB3.out.trans (hb4.mono HB3.out.size))
     clear hb4
     go_wp2_with fail
     (with_reducible refine(qZ.out w4 dX.out).mono ?_)
     rintro e w5 ⟨rfl,rfl⟩
     go_wp2_with fail
     (with_reducible refine(CF.out w4 dX.out).mono ?_)
     rintro e w5 KA
     obtain⟨rfl,rM,xS⟩:=KA
     have AA:=Lib.hid (pW id y w5 xS yc.out.sorted yc.out.len IQ.out Ig.out)
     have yO:Hid (bC F w4 r (aA T d n1) (.tuple #[]) (.returned (.tuple #[])) w5):=⟨rfl,rM,xS⟩
     clear rM xS
     go_wp2_with fail
     (with_reducible refine AA.out.mono ?_)
     rintro e w6 lu
     have g_:=Lib.hid lu
     obtain rfl:=lu.1
     clear lu
     go_wp2_with fail
     go_ret
     rw[HQ.out]
     exact(dh.behind HH.out.low dX.out (yO.out.trans (HH.out.below dX.out (Nat.le_refl _)).low g_.out)).val _
  ·rw[if_neg h2]at CB
   rw[if_pos h2]at hue
   have HQ:=Lib.hid (oq hue (by omega))
   clear h hT hS hE H4 wQ h1 hl2 hue hid hy h2 hlm hln hc
   go_enter Tryz.func15,Tryz.ntmps15
   go_wp2_with fail
   (with_reducible refine H1.out.mono ?_)
   rintro e w1 ⟨rfl,hb1⟩
   have HB1:=Lib.hid hb1
   clear hb1
   go_wp2_with fail
   (with_reducible refine(CB.out w1 HB1.out).mono ?_)
   rintro e w3 ⟨al,cl,rfl,-,-,hb3⟩
   have HB3:=Lib.hid (HB1.out.trans (hb3.mono HB1.out.size))
   clear hb3
   simp only[List.length_nil]
   go_wp2_with fail
   go_ret
   exact bC.no HH.out HB3.out HQ.out
 ·have HQ:Hid (bU T ls=((eO T ls).2,T)):=oq (by unfold gV;rw[if_pos h1]) h1
  generalize eO T ls=lk at*
  obtain⟨id,e1⟩:=lk
  simp only at h1 H1 HQ
  have hne:(e1==0)=false:=by simpa using h1
  have hne2:(e1 !=0)=true:=by simpa using h1
  clear h hT hS hE h1 hln hc
  go_enter Tryz.func15,Tryz.ntmps15
  go_wp2_with fail
  (with_reducible refine H1.out.mono ?_)
  rintro e w1 ⟨rfl,hb1⟩
  have HB1:=Lib.hid hb1
  clear hb1
  go_wp2_with fail
  go_ret
  exact bC.no HH.out HB1.out HQ.out
end
def KG (F:Nat→Prop) (w:World) (bs:List UInt8) (k:Int) (e:Ending) (w':World):Prop:=
 ∃a n c,e= .returned (.tuple #[.slice a n c, .int .i64 k])∧av F w a n (bs.map bv)∧w=w'
section
variable {F:Nat→Prop} {r:Nat} {T:aF}
set_option maxRecDepth 100000 in
set_option maxHeartbeats 8000000 in
theorem zh (id at_ n:Int) (w:World) (h:gX F w r T) (hT:vw T) (hA:(Lit.int .i64 at_).wf=true) (hN:(Lit.int .i64 n).wf=true):Calls Tryz.prog 28 #[ptr r, .int .i64 id, .int .i64 at_, .int .i64 n] w (KG (Off F r) w (lZ T id at_ n) (lY T id at_ n)):=by
 have HF:=Lib.hid (nI id w h hT)
 have hr0:=h.low r h.own
 have hfe:bL T id≠0∨bL T id=0:=by omega
 rcases hfe with h0|h0
 ·have e1:lY T id at_ n=bL T id∧lZ T id at_ n=[]:=by
   unfold lY lZ bL at*
   cases hx:aj id T with
   |none=>simp
   |some x=>
    rw[hx]at h0
    simp only at h0⊢
    by_cases hk:x.kind=2
    ·simp[hk]
    ·rw[if_neg hk]at h0;exact absurd rfl h0
  rw[e1.1,e1.2]
  generalize bL T id=f at*
  have hne:(f==0)=false:=by simpa using h0
  have hne2:(f !=0)=true:=by simpa using h0
  clear h hT e1 h0 hA hN
  go_enter Tryz.func28,Tryz.ntmps28
  go_wp2_with fail
  (with_reducible refine HF.out.mono ?_)
  rintro e w1 ⟨rfl,rfl⟩
  go_wp2_with fail
  go_ret2
  exact⟨none,0,0,rfl,av.nil _ _ _,rfl⟩
 ·obtain⟨x,hx,hk⟩:∃x,aj id T=some x∧x.kind≠2:=by
   unfold bL at h0
   cases hx:aj id T with
   |none=>rw[hx]at h0;cases h0
   |some x=>
    rw[hx]at h0
    exact⟨x,rfl,fun hk=>by simp[hk]at h0⟩
  obtain⟨k,hi,hq⟩:=iM hT.sorted hx
  have hrf:Bw T id=k:=by unfold Bw;rw[if_pos h0];exact hi
  rw[hrf,h0]at HF
  have e1:lY T id at_ n=vQ at_ n∧lZ T id at_ n=vR x.b at_ n:=by
   unfold lY lZ
   rw[hx]
   exact⟨if_neg hk,if_neg hk⟩
  rw[e1.1,e1.2]
  obtain⟨b,off,c,a,c',hc1,hO,hb,hcd,hcap,hrow⟩:=h.data (k:=k) (d:=x.b) (by rw[List.getElem?_map,hq];rfl)
  have hkl:k<T.length:=(List.getElem?_eq_some_iff.1 hq).1
  rw[List.length_map]at hc1
  have hlen:=hT.len
  have hsz:=(hT.each id x hx).size
  obtain⟨l,hl⟩:∃l,l=x.b.length:=⟨_,rfl⟩
  rw[←hl]at hcd hcap hrow hsz
  have hcc:=hcap.1
  have i0:(0:Int)≤k:=by omega
  have i1:(k:Int)<T.length:=by omega
  have HR:=Lib.hid hrow
  have HL:=Lib.hid hl
  simp[Lit.wf,IntKind.min,IntKind.max,IntKind.signed,IntKind.bits]at hA hN
  generalize x.b=bs at*
  generalize T.length=tl at*
  clear h hT e1 h0 hx hk hi hq hrf hl hrow hcap
  unfold vQ vR
  by_cases h1:at_<0
  ·rw[if_pos (.inl h1),if_pos (.inl h1)]
   go_enter Tryz.func28,Tryz.ntmps28
   go_wp2_with fail
   (with_reducible refine HF.out.mono ?_)
   rintro e w1 ⟨rfl,rfl⟩
   go_wp2_with fail
   go_ret2
   exact⟨none,0,0,rfl,av.nil _ _ _,rfl⟩
  ·by_cases h2:n<0
   ·rw[if_pos (.inr h2),if_pos (.inr h2)]
    go_enter Tryz.func28,Tryz.ntmps28
    go_wp2_with fail
    (with_reducible refine HF.out.mono ?_)
    rintro e w1 ⟨rfl,rfl⟩
    go_wp2_with fail
    go_ret2
    exact⟨none,0,0,rfl,av.nil _ _ _,rfl⟩
   ·rw[if_neg (by omega),if_neg (by omega)]
    obtain⟨A,rfl⟩:∃A:Nat,at_=A:=⟨at_.toNat,by omega⟩
    obtain⟨N,rfl⟩:∃N:Nat,n=N:=⟨n.toNat,by omega⟩
    simp only[Int.toNat_natCast]
    have hd1:decide ((A:Int)<0)=false:=by simp
    have hd2:decide ((N:Int)<0)=false:=by simp
    by_cases h3:l≤A
    ·have hd3:decide ((l:Int)≤(A:Int))=true:=by simp;omega
     have Sq:decide (l≤A)=true:=by simpa using h3
     have HE:Hid ((bs.drop A).take N=[]):=by
      show(bs.drop A).take N=[]
      rw[List.drop_of_length_le (by have:=HL.out;omega),List.take_nil]
     go_enter Tryz.func28,Tryz.ntmps28
     go_wp2_with fail
     (with_reducible refine HF.out.mono ?_)
     rintro e w1 ⟨rfl,rfl⟩
     go_wp2_with fail
     go_ret2
     exact⟨none,0,0,rfl,by rw[HE.out];exact av.nil _ _ _,rfl⟩
    ·have hd3:decide ((l:Int)≤(A:Int))=false:=by simp;omega
     have Sq:decide (l≤A)=false:=by simpa using h3
     obtain⟨b2,off2,rfl,hO2,hb2,-⟩:=HR.out.at_ (by omega)
     have hca:¬c'=A:=by omega
     have e1:IntKind.i64.wrap ((l:Int)-(A:Int))=(l:Int)-(A:Int):=IntWalk.i64_in _ (by omega)
     have i2:(0:Int)≤(A:Int):=by omega
     have i5:(l:Int)≤(c':Int):=by omega
     by_cases h4:l-A<N
     ·have hd4:decide ((l:Int)-(A:Int)<(N:Int))=true:=by simp;omega
      have e2:IntKind.i64.wrap ((A:Int)+((l:Int)-(A:Int)))=(l:Int):=by rw[show(A:Int)+((l:Int)-(A:Int))=l by omega];exact IntWalk.i64_in _ (by omega)
      have i3:(A:Int)≤(l:Int):=by omega
      have HE:Hid ((bs.drop A).take N=(bs.drop A).take (l-A)):=by
       show(bs.drop A).take N=_
       have:=HL.out
       rw[List.take_of_length_le (by simp;omega),List.take_of_length_le (by simp;omega)]
      go_enter Tryz.func28,Tryz.ntmps28
      go_wp2_with fail
      (with_reducible refine HF.out.mono ?_)
      rintro e w1 ⟨rfl,rfl⟩
      go_wp2_with fail
      go_ret2
      refine⟨some ⟨b2,off2+A,none⟩,l-A,_,rfl,?_,rfl⟩
      rw[HE.out,List.map_take,List.map_drop]
      have:=(HR.out.drop A).take (l-A)
      rwa [Nat.min_self]at this
     ·have hd4:decide ((l:Int)-(A:Int)<(N:Int))=false:=by simp;omega
      have e2:IntKind.i64.wrap ((A:Int)+(N:Int))=(A:Int)+(N:Int):=IntWalk.i64_in _ (by omega)
      have i3:(A:Int)≤(A:Int)+(N:Int):=by omega
      have i4:(A:Int)+(N:Int)≤(c':Int):=by omega
      go_enter Tryz.func28,Tryz.ntmps28
      go_wp2_with fail
      (with_reducible refine HF.out.mono ?_)
      rintro e w1 ⟨rfl,rfl⟩
      go_wp2_with fail
      go_ret2
      refine⟨some ⟨b2,off2+A,none⟩,N,c'-A,?_,?_,rfl⟩
      ·show Ending.returned (.tuple #[.slice (some ⟨b2,off2+A,none⟩) (A+N-A) (c'-A), .int .i64 0])=_
       rw[show A+N-A=N by omega]
      ·rw[List.map_take,List.map_drop]
       have:=(HR.out.drop A).take N
       rwa [Nat.min_eq_right (by omega)]at this
end
theorem qF {T:aF} {id aK v:Int} (h:oJ T id aK=v) (hv:v≠0):dL T id aK=(v,T):=by
 unfold dL
 rw[h,if_neg hv]
theorem uo {T:aF} {id aK v:Int} (h:oI T id aK=v) (hv:v≠0):dR T id aK=(v,T):=by
 unfold dR
 rw[h,if_neg hv]
section
variable {F:Nat→Prop} {r:Nat} {T:aF}
set_option maxRecDepth 100000 in
set_option maxHeartbeats 8000000 in
theorem zi (id aK:Int) (w:World) (h:gX F w r T) (hT:dG T) (ht0:0≤aK∧aK≤18446744073709551615):
  Calls Tryz.prog 26 #[ptr r, .int .i64 id, .int .u64 aK] w (bC F w r (dL T id aK).2 (.int .i64 (dL T id aK).1)):=by
 have HF:=Lib.hid (nI id w h hT.tovw)
 have hr0:=h.low r h.own
 have HH:=Lib.hid h
 by_cases h0:bL T id=0
 ·obtain⟨x,hx,hk⟩:∃x,aj id T=some x∧x.kind≠2:=by
   unfold bL at h0
   cases hx:aj id T with
   |none=>rw[hx]at h0;cases h0
   |some x=>
    rw[hx]at h0
    exact⟨x,rfl,fun hk=>by simp[hk]at h0⟩
  obtain⟨k,hi,hq⟩:=iM hT.sorted hx
  have hrf:Bw T id=k:=by unfold Bw;rw[if_pos h0];exact hi
  rw[hrf,h0]at HF
  obtain⟨bN,oN,cN,hc0,hO,hbw,hkl,c0,c1,c2,c3,c4,c5⟩:=h.node hq
  simp only at c0 c1 c2 c3 c4 c5
  have i0:(0:Int)≤k:=by omega
  have hlen:=hT.len
  have zk:=Lib.hid hq
  have HS:=Lib.hid hT.sorted
  obtain⟨i6,a6,b6,s6,d6⟩:=info_parts nodeInfo
  have fC:=Lib.hid (And.intro a6 (And.intro b6 (And.intro s6 d6)))
  obtain⟨aN,Sr,aD,cD,aE,cE,h1,h2,h3,h4,h8,h9,h10,h11⟩:=h.head
  obtain⟨p0,p1,p2,pf⟩:=eG h1
  rw[p0]at hc0
  simp only[Option.some.injEq,Value.slice.injEq,true_and]at hc0
  obtain⟨rfl,rfl⟩:=hc0
  have pq:=Lib.hid h1
  have FN:=Lib.hid h8
  obtain⟨n,hn⟩:∃n,n=T.length:=⟨_,rfl⟩
  rw[←hn]at p0 hlen hkl h2 FN
  have gY:=Lib.hid hn
  have hf0:=pf 0
  have hfp:=hO.2
  have i1:(k:Int)<n:=by omega
  have hrw:=hr0
  have uO:=Lib.hid (hT.each id x hx)
  have HX:=Lib.hid hx
  have hkx:=hk
  clear a6 b6 s6 d6 h1 h8 h9 h10 h11 hi hrf h hq hn p1 p2 pf hO hT h0
  have he:oJ T id aK=if x.closed=false then 25 else if aK<x.aK then 28 else if 1099511627776<aK then 1 else 0:=by
   unfold oJ
   rw[hx]
   simp only[if_neg hk]
  clear hx hk hkx
  cases hcl:x.closed with
  |false=>
   rw[hcl]at c5
   have HQ:=Lib.hid (qF (he.trans (if_pos hcl)) (by omega))
   clear hcl he
   go_enter Tryz.func26,Tryz.ntmps26
   go_wp2_with fail
   (with_reducible refine HF.out.mono ?_)
   rintro e w1 ⟨rfl,rfl⟩
   go_wp2_with fail
   go_ret
   exact bC.no HH.out (Below.refl _ _) HQ.out
  |true=>
   rw[hcl]at c5
   rw[if_neg (by rw[hcl];decide)]at he
   by_cases h5:aK<x.aK
   ·have HQ:=Lib.hid (qF (he.trans (if_pos h5)) (by omega))
    have hd5:decide (aK<x.aK)=true:=by simpa using h5
    clear hcl he
    go_enter Tryz.func26,Tryz.ntmps26
    go_wp2_with fail
    (with_reducible refine HF.out.mono ?_)
    rintro e w1 ⟨rfl,rfl⟩
    go_wp2_with fail
    go_ret
    exact bC.no HH.out (Below.refl _ _) HQ.out
   ·rw[if_neg h5]at he
    have hd5:decide (aK<x.aK)=false:=by simpa using h5
    by_cases h6:1099511627776<aK
    ·have HQ:=Lib.hid (qF (he.trans (if_pos h6)) (by omega))
     have hd6:decide ((1099511627776:Int)<aK)=true:=by simpa using h6
     clear hcl he
     go_enter Tryz.func26,Tryz.ntmps26
     go_wp2_with fail
     (with_reducible refine HF.out.mono ?_)
     rintro e w1 ⟨rfl,rfl⟩
     go_wp2_with fail
     go_ret
     exact bC.no HH.out (Below.refl _ _) HQ.out
    ·have hd6:decide ((1099511627776:Int)<aK)=false:=by simpa using h6
     have HQ:Hid (dL T id aK=(0,aX id (fun x=>{x with aK:=aK}) T)):=by
      show dL T id aK=_
      unfold dL
      rw[he,if_neg h6]
      rfl
     clear hcl he
     go_enter Tryz.func26,Tryz.ntmps26
     go_wp2_with fail
     (with_reducible refine HF.out.mono ?_)
     rintro e w1 ⟨rfl,rfl⟩
     go_upto_region 10 with(fail)
     go_cut [] (fun wx=>bP w r (.slice aD (List.map (fun q:Int×bF=>q.2.b) T).length cD) (.slice aE (aV T).length cE) T wx)
     case first=>
      go_wp2_with ((at_builtin;refine eZ rfl _ _ 99 rfl w.heap.size 98 _ _ 6 48 Tryz.underlying99 fC.out.1 fC.out.2.1 fC.out.2.2.1 fC.out.2.2.2 rfl (by omega) _ 0 [] rfl (dH (MapKept.heap_alloc w _).1 (Nat.le_refl _)) _ n _ (T.flatMap bX) rfl (FN.out.below ((Below.refl _ _).alloc (Nat.le_refl _) _) (Nat.le_refl _)) (dJ _) (by unfold maxLen;omega) (by omega) (by simp) ?_;intro A1 c1' w1 hown1 hb1;have hB1:=((Below.refl w.heap.size w).alloc (Nat.le_refl _) _).trans hb1;have hf1:w1.frozen? ⟨r,0,none⟩=false:=(hB1.frozen (p:=⟨r,0,none⟩) hrw).trans hf0;have KH:=(hB1.cell (p:=⟨r,0,none⟩) hrw).trans p0))
      go_meet
      obtain⟨-,hcc,-,hrow2⟩:=lg (w:=w) hown1 (by unfold maxLen;omega) (Nat.le_refl _)
      have hn:=gY.out
      rw[List.nil_append,Nat.zero_add,hn]at hrow2
      rw[Nat.zero_add,hn]at hcc
      have:=bP.Nk hrw pq.out hB1 hcc hrow2 (jG hown1)
      rw[←hn]at this
      exact this
     case rest=>
      obtain⟨w1,rfl⟩:∃w1:World,w1=wc:=⟨_,rfl⟩
      obtain⟨g,off,c,q0,-,-,hlc,qf,hgr,hg1,hg2,hr1,gf,d0,d1,d2,d3,d4,d5⟩:=hcut.facts zk.out
      rw[←gY.out]at q0
      have GN:=gf (off+k*6+4)
      have HM:=Lib.hid hcut
      have IC:=Lib.hid q0
      clear hcut qf gf hlc
      go_wp2_with fail
      go_ret
      rw[HQ.out]
      have h0:=IC.out
      rw[gY.out]at h0
      have:=bP.iC HM.out (by rw[←gY.out]at h0⊢;exact h0) (k:=k) (j:=4) (q':=(id,{x with aK:=aK})) (v:= .int .u64 aK) zk.out (by omega) rfl
      rw[←Nat.add_assoc]at this
      have h7:=fO.om HH.out pq.out this (.int .i64 0)
      have h8:=kZ (f:=fun x:bF=>{x with aK:=aK}) HS.out zk.out
      simp only at h8
      rw[h8]at h7
      refine⟨h7.1,h7.2.1,?_⟩
      rw[lT (fun _=>by exact rfl),jZ (fun _=>by exact rfl)]
      exact h7.2.2
 ·have HQ:=Lib.hid (qF (T:=T) (id:=id) (aK:=aK) (v:=bL T id) (by
   unfold oJ bL at*
   cases hx:aj id T with
   |none=>rfl
   |some x=>
    rw[hx]at h0
    by_cases hk:x.kind=2
    ·simp[hk]
    ·exact absurd (by simp[hk]) h0) h0)
  generalize bL T id=f at*
  have hne:(f==0)=false:=by simpa using h0
  have hne2:(f !=0)=true:=by simpa using h0
  clear h hT h0
  go_enter Tryz.func26,Tryz.ntmps26
  go_wp2_with fail
  (with_reducible refine HF.out.mono ?_)
  rintro e w1 ⟨rfl,rfl⟩
  go_wp2_with fail
  go_ret
  exact bC.no HH.out (Below.refl _ _) HQ.out
end
section
variable {F:Nat→Prop} {r:Nat} {T:aF}
set_option maxRecDepth 100000 in
set_option maxHeartbeats 8000000 in
theorem zl (id aK:Int) (w:World) (h:gX F w r T) (hT:dG T) (ht0:0≤aK∧aK≤18446744073709551615):
  Calls Tryz.prog 24 #[ptr r, .int .i64 id, .int .u64 aK] w (bC F w r (dR T id aK).2 (.int .i64 (dR T id aK).1)):=by
 have HF:=Lib.hid (nI id w h hT.tovw)
 have hr0:=h.low r h.own
 have HH:=Lib.hid h
 by_cases h0:bL T id=0
 ·obtain⟨x,hx,hk⟩:∃x,aj id T=some x∧x.kind≠2:=by
   unfold bL at h0
   cases hx:aj id T with
   |none=>rw[hx]at h0;cases h0
   |some x=>
    rw[hx]at h0
    exact⟨x,rfl,fun hk=>by simp[hk]at h0⟩
  obtain⟨k,hi,hq⟩:=iM hT.sorted hx
  have hrf:Bw T id=k:=by unfold Bw;rw[if_pos h0];exact hi
  rw[hrf,h0]at HF
  obtain⟨bN,oN,cN,hc0,hO,hbw,hkl,c0,c1,c2,c3,c4,c5⟩:=h.node hq
  simp only at c0 c1 c2 c3 c4 c5
  have i0:(0:Int)≤k:=by omega
  have hlen:=hT.len
  have zk:=Lib.hid hq
  have HS:=Lib.hid hT.sorted
  obtain⟨i6,a6,b6,s6,d6⟩:=info_parts nodeInfo
  have fC:=Lib.hid (And.intro a6 (And.intro b6 (And.intro s6 d6)))
  obtain⟨aN,Sr,aD,cD,aE,cE,h1,h2,h3,h4,h8,h9,h10,h11⟩:=h.head
  obtain⟨p0,p1,p2,pf⟩:=eG h1
  rw[p0]at hc0
  simp only[Option.some.injEq,Value.slice.injEq,true_and]at hc0
  obtain⟨rfl,rfl⟩:=hc0
  have pq:=Lib.hid h1
  have FN:=Lib.hid h8
  obtain⟨n,hn⟩:∃n,n=T.length:=⟨_,rfl⟩
  rw[←hn]at p0 hlen hkl h2 FN
  have gY:=Lib.hid hn
  have hf0:=pf 0
  have hfp:=hO.2
  have i1:(k:Int)<n:=by omega
  have hrw:=hr0
  have uO:=Lib.hid (hT.each id x hx)
  have HX:=Lib.hid hx
  have hkx:=hk
  clear a6 b6 s6 d6 h1 h8 h9 h10 h11 hi hrf h hq hn p1 p2 pf hO hT h0
  have he:oI T id aK=if x.closed then 27 else if 1099511627776<aK then 1 else 0:=by
   unfold oI
   rw[hx]
   simp only[if_neg hk]
  clear hx hk
  cases hcl:x.closed with
  |true=>
   rw[hcl]at c5
   have HQ:=Lib.hid (uo (he.trans (if_pos hcl)) (by omega))
   clear hcl he
   go_enter Tryz.func24,Tryz.ntmps24
   go_wp2_with fail
   (with_reducible refine HF.out.mono ?_)
   rintro e w1 ⟨rfl,rfl⟩
   go_wp2_with fail
   go_ret
   exact bC.no HH.out (Below.refl _ _) HQ.out
  |false=>
   rw[hcl]at c5
   rw[if_neg (by rw[hcl];decide)]at he
   by_cases h6:1099511627776<aK
   ·have HQ:=Lib.hid (uo (he.trans (if_pos h6)) (by omega))
    have hd6:decide ((1099511627776:Int)<aK)=true:=by simpa using h6
    clear hcl he
    go_enter Tryz.func24,Tryz.ntmps24
    go_wp2_with fail
    (with_reducible refine HF.out.mono ?_)
    rintro e w1 ⟨rfl,rfl⟩
    go_wp2_with fail
    go_ret
    exact bC.no HH.out (Below.refl _ _) HQ.out
   ·have hd6:decide ((1099511627776:Int)<aK)=false:=by simpa using h6
    have HQ:Hid (dR T id aK=(0,if x.links=0 then bg id (aX id (fun x:bF=>{x with closed:=true,aK:=aK}) T)else(aX id (fun x:bF=>{x with closed:=true,aK:=aK}) T))):=by
     show dR T id aK=_
     unfold dR eP
     rw[he,if_neg h6]
     refine Prod.ext rfl ?_
     show(match aj id (aX id (fun x:bF=>{x with closed:=true,aK:=aK}) T)with|none=>(aX id (fun x:bF=>{x with closed:=true,aK:=aK}) T)|some x=>if x.links=0∧x.closed=true then bg id (aX id (fun x:bF=>{x with closed:=true,aK:=aK}) T)else(aX id (fun x:bF=>{x with closed:=true,aK:=aK}) T))=_
     rw[aQ,if_pos rfl,HX.out]
     simp only[Option.map_some,and_true]
    clear hcl he
    by_cases h9:x.links=0
    ·rw[if_pos h9]at HQ
     have e9:(x.links==0)=true:=by simpa using h9
     clear h9
     go_enter Tryz.func24,Tryz.ntmps24
     go_wp2_with fail
     (with_reducible refine HF.out.mono ?_)
     rintro e w1 ⟨rfl,rfl⟩
     go_upto_region 8 with(fail)
     go_cut [] (fun wx=>bP w r (.slice aD (List.map (fun q:Int×bF=>q.2.b) T).length cD) (.slice aE (aV T).length cE) T wx)
     case first=>
      go_wp2_with ((at_builtin;refine eZ rfl _ _ 99 rfl w.heap.size 98 _ _ 6 48 Tryz.underlying99 fC.out.1 fC.out.2.1 fC.out.2.2.1 fC.out.2.2.2 rfl (by omega) _ 0 [] rfl (dH (MapKept.heap_alloc w _).1 (Nat.le_refl _)) _ n _ (T.flatMap bX) rfl (FN.out.below ((Below.refl _ _).alloc (Nat.le_refl _) _) (Nat.le_refl _)) (dJ _) (by unfold maxLen;omega) (by omega) (by simp) ?_;intro A1 c1' w1 hown1 hb1;have hB1:=((Below.refl w.heap.size w).alloc (Nat.le_refl _) _).trans hb1;have hf1:w1.frozen? ⟨r,0,none⟩=false:=(hB1.frozen (p:=⟨r,0,none⟩) hrw).trans hf0;have KH:=(hB1.cell (p:=⟨r,0,none⟩) hrw).trans p0))
      go_meet
      obtain⟨-,hcc,-,hrow2⟩:=lg (w:=w) hown1 (by unfold maxLen;omega) (Nat.le_refl _)
      have hn:=gY.out
      rw[List.nil_append,Nat.zero_add,hn]at hrow2
      rw[Nat.zero_add,hn]at hcc
      have:=bP.Nk hrw pq.out hB1 hcc hrow2 (jG hown1)
      rw[←hn]at this
      exact this
     case rest=>
      obtain⟨w1,rfl⟩:∃w1:World,w1=wc:=⟨_,rfl⟩
      obtain⟨g,off,c,q0,-,-,hlc,qf,hgr,hg1,hg2,hr1,gf,d0,d1,d2,d3,d4,d5⟩:=hcut.facts zk.out
      rw[←gY.out]at q0
      have GN:=gf (off+k*6+5)
      have HM:=Lib.hid hcut
      have IC:=Lib.hid q0
      clear hcut qf gf hlc
      go_upto_region 9 with(fail)
      go_cut [] (fun wx=>bP w r (.slice aD (List.map (fun q:Int×bF=>q.2.b) T).length cD) (.slice aE (aV T).length cE) (T.set k (id,({x with closed:=true}:bF))) wx)
      case first=>
       go_wp2_with fail
       go_meet
       have h0:=IC.out
       rw[gY.out]at h0
       have:=bP.iC HM.out (by rw[←gY.out]at h0⊢;exact h0) (k:=k) (j:=5) (q':=(id,{x with closed:=true})) (v:= .bool true) zk.out (by omega) rfl
       rw[←Nat.add_assoc]at this
       exact this
      case rest=>
       clear q0 d0 d1 d2 d3 d4 d5 GN hgr hg1 hg2 hr1
       obtain⟨w2,rfl⟩:∃w2:World,w2=wc:=⟨_,rfl⟩
       have hset:(T.set k (id,({x with closed:=true}:bF)))[k]? =some (id,({x with closed:=true}:bF)):=by
        have hk1:k<T.length:=by have:=gY.out;omega
        rw[List.getElem?_set_self hk1]
       have Qc:=Lib.hid hset
       have NP:Hid (n=(T.set k (id,({x with closed:=true}:bF))).length):=by
        show n=_
        rw[List.length_set];exact gY.out
       clear hset
       obtain⟨g2,off2,Vj,q0,-,-,hlc,qf,hgr,hg1,hg2,hr1,gf,d0,d1,d2,d3,d4,d5⟩:=hcut.facts Qc.out
       rw[←NP.out]at q0
       have GN:=gf (off2+k*6+4)
       have zW:=Lib.hid hcut
       have KI:=Lib.hid q0
       clear hcut qf gf hlc
       go_upto_region 10 with(fail)
       go_cut [] (fun wx=>bC F w r (aX id (fun x:bF=>{x with closed:=true,aK:=aK}) T) (.tuple #[]) (.returned (.tuple #[])) wx)
       case first=>
        go_wp2_with fail
        go_meet
        have h0:=KI.out
        rw[NP.out]at h0
        have:=bP.iC zW.out (by rw[←NP.out]at h0⊢;exact h0) (k:=k) (j:=4) (q':=(id,{x with closed:=true,aK:=aK})) (v:= .int .u64 aK) Qc.out (by omega) rfl
        rw[←Nat.add_assoc]at this
        rw[List.set_set]at this
        have h7:=fO.om HH.out pq.out this (.tuple #[])
        have h8:=kZ (f:=fun x:bF=>{x with closed:=true,aK:=aK}) HS.out zk.out
        simp only at h8
        rw[h8]at h7
        refine⟨h7.1,h7.2.1,?_⟩
        rw[lT (fun _=>by exact rfl),jZ (fun _=>by exact rfl)]
        exact h7.2.2
       case rest=>
        clear q0 d0 d1 d2 d3 d4 d5 GN hgr hg1 hg2 hr1
        obtain⟨w3,rfl⟩:∃w3:World,w3=wc:=⟨_,rfl⟩
        have HT3:=Lib.hid hcut
        have rE:=hcut.2.2
        have hr3:r<w3.heap.size:=rE.low r rE.own
        have hset:(aX id (fun x:bF=>{x with closed:=true,aK:=aK}) T)[k]? =some (id,({x with closed:=true,aK:=aK}:bF)):=by
         have h8:=kZ (f:=fun x:bF=>{x with closed:=true,aK:=aK}) HS.out zk.out
         simp only at h8
         have hk1:k<T.length:=by have:=gY.out;omega
         rw[←h8,List.getElem?_set_self hk1]
        obtain⟨bG,oG,cG,e0,Sv,Xm,Sw,-,-,e2,-,-,-⟩:=rE.node hset
        simp only at e2
        rw[fP,←gY.out]at e0
        have NQ:Hid (aj id (aX id (fun x:bF=>{x with closed:=true,aK:=aK}) T)=some ({x with closed:=true,aK:=aK}:bF)):=by
         show aj id (aX id (fun x:bF=>{x with closed:=true,aK:=aK}) T)=_
         rw[aQ,if_pos rfl,HX.out]
         rfl
        have HSL:Hid (aI fT (aX id (fun x:bF=>{x with closed:=true,aK:=aK}) T)∧(aX id (fun x:bF=>{x with closed:=true,aK:=aK}) T).length≤64):=by
         refine⟨jB _ _ HS.out,?_⟩
         rw[fP,←gY.out]
         exact hlen
        have AA:=Lib.hid (pW id _ w3 rE HSL.out.1 HSL.out.2 NQ.out (uO.out.file (uO.out.kind.resolve_right hkx)))
        clear hcut rE hset Sv Sw
        go_wp2_with fail
        (with_reducible refine AA.out.mono ?_)
        rintro e w4 IX
        have rJ:=Lib.hid IX
        obtain rfl:=IX.1
        clear IX
        go_wp2_with fail
        go_ret
        rw[HQ.out]
        exact(HT3.out.trans HH.out.low rJ.out).val _
    ·rw[if_neg h9]at HQ
     have e9:(x.links==0)=false:=by simpa using h9
     clear h9
     go_enter Tryz.func24,Tryz.ntmps24
     go_wp2_with fail
     (with_reducible refine HF.out.mono ?_)
     rintro e w1 ⟨rfl,rfl⟩
     go_upto_region 8 with(fail)
     go_cut [] (fun wx=>bP w r (.slice aD (List.map (fun q:Int×bF=>q.2.b) T).length cD) (.slice aE (aV T).length cE) T wx)
     case first=>
      go_wp2_with ((at_builtin;refine eZ rfl _ _ 99 rfl w.heap.size 98 _ _ 6 48 Tryz.underlying99 fC.out.1 fC.out.2.1 fC.out.2.2.1 fC.out.2.2.2 rfl (by omega) _ 0 [] rfl (dH (MapKept.heap_alloc w _).1 (Nat.le_refl _)) _ n _ (T.flatMap bX) rfl (FN.out.below ((Below.refl _ _).alloc (Nat.le_refl _) _) (Nat.le_refl _)) (dJ _) (by unfold maxLen;omega) (by omega) (by simp) ?_;intro A1 c1' w1 hown1 hb1;have hB1:=((Below.refl w.heap.size w).alloc (Nat.le_refl _) _).trans hb1;have hf1:w1.frozen? ⟨r,0,none⟩=false:=(hB1.frozen (p:=⟨r,0,none⟩) hrw).trans hf0;have KH:=(hB1.cell (p:=⟨r,0,none⟩) hrw).trans p0))
      go_meet
      obtain⟨-,hcc,-,hrow2⟩:=lg (w:=w) hown1 (by unfold maxLen;omega) (Nat.le_refl _)
      have hn:=gY.out
      rw[List.nil_append,Nat.zero_add,hn]at hrow2
      rw[Nat.zero_add,hn]at hcc
      have:=bP.Nk hrw pq.out hB1 hcc hrow2 (jG hown1)
      rw[←hn]at this
      exact this
     case rest=>
      obtain⟨w1,rfl⟩:∃w1:World,w1=wc:=⟨_,rfl⟩
      obtain⟨g,off,c,q0,-,-,hlc,qf,hgr,hg1,hg2,hr1,gf,d0,d1,d2,d3,d4,d5⟩:=hcut.facts zk.out
      rw[←gY.out]at q0
      have GN:=gf (off+k*6+5)
      have HM:=Lib.hid hcut
      have IC:=Lib.hid q0
      clear hcut qf gf hlc
      go_upto_region 9 with(fail)
      go_cut [] (fun wx=>bP w r (.slice aD (List.map (fun q:Int×bF=>q.2.b) T).length cD) (.slice aE (aV T).length cE) (T.set k (id,({x with closed:=true}:bF))) wx)
      case first=>
       go_wp2_with fail
       go_meet
       have h0:=IC.out
       rw[gY.out]at h0
       have:=bP.iC HM.out (by rw[←gY.out]at h0⊢;exact h0) (k:=k) (j:=5) (q':=(id,{x with closed:=true})) (v:= .bool true) zk.out (by omega) rfl
       rw[←Nat.add_assoc]at this
       exact this
      case rest=>
       clear q0 d0 d1 d2 d3 d4 d5 GN hgr hg1 hg2 hr1
       obtain⟨w2,rfl⟩:∃w2:World,w2=wc:=⟨_,rfl⟩
       have hset:(T.set k (id,({x with closed:=true}:bF)))[k]? =some (id,({x with closed:=true}:bF)):=by
        have hk1:k<T.length:=by have:=gY.out;omega
        rw[List.getElem?_set_self hk1]
       have Qc:=Lib.hid hset
       have NP:Hid (n=(T.set k (id,({x with closed:=true}:bF))).length):=by
        show n=_
        rw[List.length_set];exact gY.out
       clear hset
       obtain⟨g2,off2,Vj,q0,-,-,hlc,qf,hgr,hg1,hg2,hr1,gf,d0,d1,d2,d3,d4,d5⟩:=hcut.facts Qc.out
       rw[←NP.out]at q0
       have GN:=gf (off2+k*6+4)
       have zW:=Lib.hid hcut
       have KI:=Lib.hid q0
       clear hcut qf gf hlc
       go_upto_region 10 with(fail)
       go_cut [] (fun wx=>bC F w r (aX id (fun x:bF=>{x with closed:=true,aK:=aK}) T) (.tuple #[]) (.returned (.tuple #[])) wx)
       case first=>
        go_wp2_with fail
        go_meet
        have h0:=KI.out
        rw[NP.out]at h0
        have:=bP.iC zW.out (by rw[←NP.out]at h0⊢;exact h0) (k:=k) (j:=4) (q':=(id,{x with closed:=true,aK:=aK})) (v:= .int .u64 aK) Qc.out (by omega) rfl
        rw[←Nat.add_assoc]at this
        rw[List.set_set]at this
        have h7:=fO.om HH.out pq.out this (.tuple #[])
        have h8:=kZ (f:=fun x:bF=>{x with closed:=true,aK:=aK}) HS.out zk.out
        simp only at h8
        rw[h8]at h7
        refine⟨h7.1,h7.2.1,?_⟩
        rw[lT (fun _=>by exact rfl),jZ (fun _=>by exact rfl)]
        exact h7.2.2
       case rest=>
        clear q0 d0 d1 d2 d3 d4 d5 GN hgr hg1 hg2 hr1
        obtain⟨w3,rfl⟩:∃w3:World,w3=wc:=⟨_,rfl⟩
        have HT3:=Lib.hid hcut
        have rE:=hcut.2.2
        have hr3:r<w3.heap.size:=rE.low r rE.own
        have hset:(aX id (fun x:bF=>{x with closed:=true,aK:=aK}) T)[k]? =some (id,({x with closed:=true,aK:=aK}:bF)):=by
         have h8:=kZ (f:=fun x:bF=>{x with closed:=true,aK:=aK}) HS.out zk.out
         simp only at h8
         have hk1:k<T.length:=by have:=gY.out;omega
         rw[←h8,List.getElem?_set_self hk1]
        obtain⟨bG,oG,cG,e0,Sv,Xm,Sw,-,-,e2,-,-,-⟩:=rE.node hset
        simp only at e2
        rw[fP,←gY.out]at e0
        have NQ:Hid (aj id (aX id (fun x:bF=>{x with closed:=true,aK:=aK}) T)=some ({x with closed:=true,aK:=aK}:bF)):=by
         show aj id (aX id (fun x:bF=>{x with closed:=true,aK:=aK}) T)=_
         rw[aQ,if_pos rfl,HX.out]
         rfl
        have HSL:Hid (aI fT (aX id (fun x:bF=>{x with closed:=true,aK:=aK}) T)∧(aX id (fun x:bF=>{x with closed:=true,aK:=aK}) T).length≤64):=by
         refine⟨jB _ _ HS.out,?_⟩
         rw[fP,←gY.out]
         exact hlen
        have AA:=Lib.hid (pW id _ w3 rE HSL.out.1 HSL.out.2 NQ.out (uO.out.file (uO.out.kind.resolve_right hkx)))
        clear hcut rE hset Sv Sw
        go_wp2_with fail
        go_ret
        rw[HQ.out]
        exact HT3.out.val _
 ·have HQ:=Lib.hid (uo (T:=T) (id:=id) (aK:=aK) (v:=bL T id) (by
   unfold oI bL at*
   cases hx:aj id T with
   |none=>rfl
   |some x=>
    rw[hx]at h0
    by_cases hk:x.kind=2
    ·simp[hk]
    ·exact absurd (by simp[hk]) h0) h0)
  generalize bL T id=f at*
  have hne:(f==0)=false:=by simpa using h0
  have hne2:(f !=0)=true:=by simpa using h0
  clear h hT h0
  go_enter Tryz.func24,Tryz.ntmps24
  go_wp2_with fail
  (with_reducible refine HF.out.mono ?_)
  rintro e w1 ⟨rfl,rfl⟩
  go_wp2_with fail
  go_ret
  exact bC.no HH.out (Below.refl _ _) HQ.out
end
end Go.Proofs.YtohpcppeajijnaaGreat
