/- The reference: Keep, Seal. The reference: Seal. The reference: Drop. The reference: deep. The reference: onto. -/
import Derived.Test.YtjnhnlabpccgjaaGreatM22
import Derived.Deep.QuietTactic
import Derived.BigQuiet
namespace Go.Proofs.YtjnhnlabpccgjaaGreat
open Go.ChangeShapes Go.WideShapes Go.ChangeAt Go.RowKit
set_option linter.unusedVariables false
set_option linter.unusedSimpArgs false
theorem rP {T:aF} {id aO v:Int} (h:pY T id aO=v) (hv:v≠0):fG T id aO=(v,T):=by
 unfold fG
 rw[h,if_neg hv]
theorem vX {T:aF} {id aO v:Int} (h:pX T id aO=v) (hv:v≠0):fU T id aO=(v,T):=by
 unfold fU
 rw[h,if_neg hv]
section
variable {F:Nat→Prop} {r:Nat} {T:aF}
set_option maxRecDepth 100000 in
set_option maxHeartbeats 8000000 in
theorem JN (id aO:Int) (w:World) (h:gW F w r T) (hT:fB T) (ht0:0≤aO∧aO≤18446744073709551615):
  Calls Tryz.prog 110 #[ptr r, .int .i64 id, .int .u64 aO] w (bH F w r (fG T id aO).2 (.int .i64 (fG T id aO).1)):=by
 have HF:=Lib.hid (oo id w h hT.torz)
 have hr0:=h.low r h.own
 have HH:=Lib.hid h
 by_cases h0:bM T id=0
 ·obtain⟨x,hx,hk⟩:∃x,ah id T=some x∧x.kind≠2:=by
   unfold bM at h0
   cases hx:ah id T with
   |none=>rw[hx]at h0;cases h0
   |some x=>
    rw[hx]at h0
    exact⟨x,rfl,fun hk=>by simp[hk]at h0⟩
  obtain⟨k,hi,hq⟩:=jr hT.sorted hx
  have hrf:Ec T id=k:=by unfold Ec;rw[if_pos h0];exact hi
  rw[hrf,h0]at HF
  obtain⟨bN,oN,cN,hc0,hO,hbw,hkl,c0,c1,c2,c3,c4,c5⟩:=h.node hq
  simp only at c0 c1 c2 c3 c4 c5
  have i0:(0:Int)≤k:=by omega
  have hlen:=hT.len
  have Bq:=Lib.hid hq
  have HS:=Lib.hid hT.sorted
  obtain⟨i6,a6,b6,s6,d6⟩:=info_parts nodeInfo
  have jh:=Lib.hid (And.intro a6 (And.intro b6 (And.intro s6 d6)))
  obtain⟨aN,WY,aD,cD,aE,cE,h1,h2,h3,h4,h8,h9,h10,h11⟩:=h.head
  obtain⟨p0,p1,p2,pf⟩:=gF h1
  rw[p0]at hc0
  simp only[Option.some.injEq,Value.slice.injEq,true_and]at hc0
  obtain⟨rfl,rfl⟩:=hc0
  have vW:=Lib.hid h1
  have JG:=Lib.hid h8
  obtain⟨n,hn⟩:∃n,n=T.length:=⟨_,rfl⟩
  rw[←hn]at p0 hlen hkl h2 JG
  have iE:=Lib.hid hn
  have hf0:=pf 0
  have hfp:=hO.2
  have i1:(k:Int)<n:=by omega
  have hrw:=hr0
  have vV:=Lib.hid (hT.each id x hx)
  have HX:=Lib.hid hx
  have hkx:=hk
  clear a6 b6 s6 d6 h1 h8 h9 h10 h11 hi hrf h hq hn p1 p2 pf hO hT h0
  have he:pY T id aO=if x.closed=false then 25 else if aO<x.aO then 28 else if 1099511627776<aO then 1 else 0:=by
   unfold pY
   rw[hx]
   simp only[if_neg hk]
  clear hx hk hkx
  cases hcl:x.closed with
  |false=>
   rw[hcl]at c5
   have HQ:=Lib.hid (rP (he.trans (if_pos hcl)) (by omega))
   clear hcl he
   go_enter Tryz.func110,Tryz.ntmps110
   go_wp2_with fail
   (with_reducible refine HF.out.mono ?_)
   rintro e w1 ⟨rfl,rfl⟩
   go_wp2_with fail
   go_ret
   exact bH.no HH.out (Below.refl _ _) HQ.out
  |true=>
   rw[hcl]at c5
   rw[if_neg (by rw[hcl];decide)]at he
   by_cases h5:aO<x.aO
   ·have HQ:=Lib.hid (rP (he.trans (if_pos h5)) (by omega))
    have hd5:decide (aO<x.aO)=true:=by simpa using h5
    clear hcl he
    go_enter Tryz.func110,Tryz.ntmps110
    go_wp2_with fail
    (with_reducible refine HF.out.mono ?_)
    rintro e w1 ⟨rfl,rfl⟩
    go_wp2_with fail
    go_ret
    exact bH.no HH.out (Below.refl _ _) HQ.out
   ·rw[if_neg h5]at he
    have hd5:decide (aO<x.aO)=false:=by simpa using h5
    by_cases h6:1099511627776<aO
    ·have HQ:=Lib.hid (rP (he.trans (if_pos h6)) (by omega))
     have hd6:decide ((1099511627776:Int)<aO)=true:=by simpa using h6
     clear hcl he
     go_enter Tryz.func110,Tryz.ntmps110
     go_wp2_with fail
     (with_reducible refine HF.out.mono ?_)
     rintro e w1 ⟨rfl,rfl⟩
     go_wp2_with fail
     go_ret
     exact bH.no HH.out (Below.refl _ _) HQ.out
    ·have hd6:decide ((1099511627776:Int)<aO)=false:=by simpa using h6
     have HQ:Hid (fG T id aO=(0,aX id (fun x=>{x with aO:=aO}) T)):=by
      show fG T id aO=_
      unfold fG
      rw[he,if_neg h6]
      rfl
     clear hcl he
     go_enter Tryz.func110,Tryz.ntmps110
     go_wp2_with fail
     (with_reducible refine HF.out.mono ?_)
     rintro e w1 ⟨rfl,rfl⟩
     go_upto_region 10 with(fail)
     go_cut [] (fun wx=>bP w r (.slice aD (List.map (fun q:Int×bA=>q.2.b) T).length cD) (.slice aE (aU T).length cE) T wx)
     case first=>
      go_wp2_with ((at_builtin;refine fA rfl _ _ 94 rfl w.heap.size 101 _ _ 6 48 Tryz.underlying94 jh.out.1 jh.out.2.1 jh.out.2.2.1 jh.out.2.2.2 rfl (by omega) _ 0 [] rfl (eH (MapKept.heap_alloc w _).1 (Nat.le_refl _)) _ n _ (T.flatMap dx) rfl (JG.out.below ((Below.refl _ _).alloc (Nat.le_refl _) _) (Nat.le_refl _)) (f_ _) (by unfold maxLen;omega) (by omega) (by simp) ?_;intro A1 c1' w1 hown1 hb1;have hB1:=((Below.refl w.heap.size w).alloc (Nat.le_refl _) _).trans hb1;have hf1:w1.frozen? ⟨r,0,none⟩=false:=(hB1.frozen (p:=⟨r,0,none⟩) hrw).trans hf0;have Pf:=(hB1.cell (p:=⟨r,0,none⟩) hrw).trans p0))
      go_meet
      obtain⟨-,hcc,-,hrow2⟩:=mh (w:=w) hown1 (by unfold maxLen;omega) (Nat.le_refl _)
      have hn:=iE.out
      rw[List.nil_append,Nat.zero_add,hn]at hrow2
      rw[Nat.zero_add,hn]at hcc
      have:=bP.RH hrw vW.out hB1 hcc hrow2 (jR hown1)
      rw[←hn]at this
      exact this
     case rest=>
      obtain⟨w1,rfl⟩:∃w1:World,w1=wc:=⟨_,rfl⟩
      obtain⟨g,off,c,q0,-,-,hlc,qf,hgr,hg1,hg2,hr1,gf,d0,d1,d2,d3,d4,d5⟩:=hcut.facts Bq.out
      rw[←iE.out]at q0
      have KG:=gf (off+k*6+4)
      have HM:=Lib.hid hcut
      have MF:=Lib.hid q0
      clear hcut qf gf hlc
      go_wp2_with fail
      go_ret
      rw[HQ.out]
      have h0:=MF.out
      rw[iE.out]at h0
      have:=bP.iG HM.out (by rw[←iE.out]at h0⊢;exact h0) (k:=k) (j:=4) (q':=(id,{x with aO:=aO})) (v:= .int .u64 aO) Bq.out (by omega) rfl
      rw[←Nat.add_assoc]at this
      have h7:=fQ.pF HH.out vW.out this (.int .i64 0)
      have h8:=mg (f:=fun x:bA=>{x with aO:=aO}) HS.out Bq.out
      simp only at h8
      rw[h8]at h7
      refine⟨h7.1,h7.2.1,?_⟩
      rw[mG (fun _=>by exact rfl),kN (fun _=>by exact rfl)]
      exact h7.2.2
 ·have HQ:=Lib.hid (rP (T:=T) (id:=id) (aO:=aO) (v:=bM T id) (by
   unfold pY bM at*
   cases hx:ah id T with
   |none=>rfl
   |some x=>
    rw[hx]at h0
    by_cases hk:x.kind=2
    ·simp[hk]
    ·exact absurd (by simp[hk]) h0) h0)
  generalize bM T id=f at*
  have hne:(f==0)=false:=by simpa using h0
  have hne2:(f !=0)=true:=by simpa using h0
  clear h hT h0
  go_enter Tryz.func110,Tryz.ntmps110
  go_wp2_with fail
  (with_reducible refine HF.out.mono ?_)
  rintro e w1 ⟨rfl,rfl⟩
  go_wp2_with fail
  go_ret
  exact bH.no HH.out (Below.refl _ _) HQ.out
end
section
variable {F:Nat→Prop} {r:Nat} {T:aF}
set_option maxRecDepth 100000 in
set_option maxHeartbeats 8000000 in
theorem JO (id aO:Int) (w:World) (h:gW F w r T) (hT:fB T) (ht0:0≤aO∧aO≤18446744073709551615):
  Calls Tryz.prog 32 #[ptr r, .int .i64 id, .int .u64 aO] w (bH F w r (fU T id aO).2 (.int .i64 (fU T id aO).1)):=by
 have HF:=Lib.hid (oo id w h hT.torz)
 have hr0:=h.low r h.own
 have HH:=Lib.hid h
 by_cases h0:bM T id=0
 ·obtain⟨x,hx,hk⟩:∃x,ah id T=some x∧x.kind≠2:=by
   unfold bM at h0
   cases hx:ah id T with
   |none=>rw[hx]at h0;cases h0
   |some x=>
    rw[hx]at h0
    exact⟨x,rfl,fun hk=>by simp[hk]at h0⟩
  obtain⟨k,hi,hq⟩:=jr hT.sorted hx
  have hrf:Ec T id=k:=by unfold Ec;rw[if_pos h0];exact hi
  rw[hrf,h0]at HF
  obtain⟨bN,oN,cN,hc0,hO,hbw,hkl,c0,c1,c2,c3,c4,c5⟩:=h.node hq
  simp only at c0 c1 c2 c3 c4 c5
  have i0:(0:Int)≤k:=by omega
  have hlen:=hT.len
  have Bq:=Lib.hid hq
  have HS:=Lib.hid hT.sorted
  obtain⟨i6,a6,b6,s6,d6⟩:=info_parts nodeInfo
  have jh:=Lib.hid (And.intro a6 (And.intro b6 (And.intro s6 d6)))
  obtain⟨aN,WY,aD,cD,aE,cE,h1,h2,h3,h4,h8,h9,h10,h11⟩:=h.head
  obtain⟨p0,p1,p2,pf⟩:=gF h1
  rw[p0]at hc0
  simp only[Option.some.injEq,Value.slice.injEq,true_and]at hc0
  obtain⟨rfl,rfl⟩:=hc0
  have vW:=Lib.hid h1
  have JG:=Lib.hid h8
  obtain⟨n,hn⟩:∃n,n=T.length:=⟨_,rfl⟩
  rw[←hn]at p0 hlen hkl h2 JG
  have iE:=Lib.hid hn
  have hf0:=pf 0
  have hfp:=hO.2
  have i1:(k:Int)<n:=by omega
  have hrw:=hr0
  have vV:=Lib.hid (hT.each id x hx)
  have HX:=Lib.hid hx
  have hkx:=hk
  clear a6 b6 s6 d6 h1 h8 h9 h10 h11 hi hrf h hq hn p1 p2 pf hO hT h0
  have he:pX T id aO=if x.closed then 27 else if 1099511627776<aO then 1 else 0:=by
   unfold pX
   rw[hx]
   simp only[if_neg hk]
  clear hx hk
  cases hcl:x.closed with
  |true=>
   rw[hcl]at c5
   have HQ:=Lib.hid (vX (he.trans (if_pos hcl)) (by omega))
   clear hcl he
   go_enter Tryz.func32,Tryz.ntmps32
   go_wp2_with fail
   (with_reducible refine HF.out.mono ?_)
   rintro e w1 ⟨rfl,rfl⟩
   go_wp2_with fail
   go_ret
   exact bH.no HH.out (Below.refl _ _) HQ.out
  |false=>
   rw[hcl]at c5
   rw[if_neg (by rw[hcl];decide)]at he
   by_cases h6:1099511627776<aO
   ·have HQ:=Lib.hid (vX (he.trans (if_pos h6)) (by omega))
    have hd6:decide ((1099511627776:Int)<aO)=true:=by simpa using h6
    clear hcl he
    go_enter Tryz.func32,Tryz.ntmps32
    go_wp2_with fail
    (with_reducible refine HF.out.mono ?_)
    rintro e w1 ⟨rfl,rfl⟩
    go_wp2_with fail
    go_ret
    exact bH.no HH.out (Below.refl _ _) HQ.out
   ·have hd6:decide ((1099511627776:Int)<aO)=false:=by simpa using h6
    have HQ:Hid (fU T id aO=(0,if x.links=0 then bB id (aX id (fun x:bA=>{x with closed:=true,aO:=aO}) T)else(aX id (fun x:bA=>{x with closed:=true,aO:=aO}) T))):=by
     show fU T id aO=_
     unfold fU eG
     rw[he,if_neg h6]
     refine Prod.ext rfl ?_
     show(match ah id (aX id (fun x:bA=>{x with closed:=true,aO:=aO}) T)with|none=>(aX id (fun x:bA=>{x with closed:=true,aO:=aO}) T)|some x=>if x.links=0∧x.closed=true then bB id (aX id (fun x:bA=>{x with closed:=true,aO:=aO}) T)else(aX id (fun x:bA=>{x with closed:=true,aO:=aO}) T))=_
     rw[aS,if_pos rfl,HX.out]
     simp only[Option.map_some,and_true]
    clear hcl he
    by_cases h9:x.links=0
    ·rw[if_pos h9]at HQ
     have e9:(x.links==0)=true:=by simpa using h9
     clear h9
     go_enter Tryz.func32,Tryz.ntmps32
     go_wp2_with fail
     (with_reducible refine HF.out.mono ?_)
     rintro e w1 ⟨rfl,rfl⟩
     go_upto_region 8 with(fail)
     go_cut [] (fun wx=>bP w r (.slice aD (List.map (fun q:Int×bA=>q.2.b) T).length cD) (.slice aE (aU T).length cE) T wx)
     case first=>
      go_wp2_with ((at_builtin;refine fA rfl _ _ 94 rfl w.heap.size 101 _ _ 6 48 Tryz.underlying94 jh.out.1 jh.out.2.1 jh.out.2.2.1 jh.out.2.2.2 rfl (by omega) _ 0 [] rfl (eH (MapKept.heap_alloc w _).1 (Nat.le_refl _)) _ n _ (T.flatMap dx) rfl (JG.out.below ((Below.refl _ _).alloc (Nat.le_refl _) _) (Nat.le_refl _)) (f_ _) (by unfold maxLen;omega) (by omega) (by simp) ?_;intro A1 c1' w1 hown1 hb1;have hB1:=((Below.refl w.heap.size w).alloc (Nat.le_refl _) _).trans hb1;have hf1:w1.frozen? ⟨r,0,none⟩=false:=(hB1.frozen (p:=⟨r,0,none⟩) hrw).trans hf0;have Pf:=(hB1.cell (p:=⟨r,0,none⟩) hrw).trans p0))
      go_meet
      obtain⟨-,hcc,-,hrow2⟩:=mh (w:=w) hown1 (by unfold maxLen;omega) (Nat.le_refl _)
      have hn:=iE.out
      rw[List.nil_append,Nat.zero_add,hn]at hrow2
      rw[Nat.zero_add,hn]at hcc
      have:=bP.RH hrw vW.out hB1 hcc hrow2 (jR hown1)
      rw[←hn]at this
      exact this
     case rest=>
      obtain⟨w1,rfl⟩:∃w1:World,w1=wc:=⟨_,rfl⟩
      obtain⟨g,off,c,q0,-,-,hlc,qf,hgr,hg1,hg2,hr1,gf,d0,d1,d2,d3,d4,d5⟩:=hcut.facts Bq.out
      rw[←iE.out]at q0
      have KG:=gf (off+k*6+5)
      have HM:=Lib.hid hcut
      have MF:=Lib.hid q0
      clear hcut qf gf hlc
      go_upto_region 9 with(fail)
      go_cut [] (fun wx=>bP w r (.slice aD (List.map (fun q:Int×bA=>q.2.b) T).length cD) (.slice aE (aU T).length cE) (T.set k (id,({x with closed:=true}:bA))) wx)
      case first=>
       go_wp2_with fail
       go_meet
       have h0:=MF.out
       rw[iE.out]at h0
       have:=bP.iG HM.out (by rw[←iE.out]at h0⊢;exact h0) (k:=k) (j:=5) (q':=(id,{x with closed:=true})) (v:= .bool true) Bq.out (by omega) rfl
       rw[←Nat.add_assoc]at this
       exact this
      case rest=>
       clear q0 d0 d1 d2 d3 d4 d5 KG hgr hg1 hg2 hr1
       obtain⟨w2,rfl⟩:∃w2:World,w2=wc:=⟨_,rfl⟩
       have hset:(T.set k (id,({x with closed:=true}:bA)))[k]? =some (id,({x with closed:=true}:bA)):=by
        have hk1:k<T.length:=by have:=iE.out;omega
        rw[List.getElem?_set_self hk1]
       have Uu:=Lib.hid hset
       have RS:Hid (n=(T.set k (id,({x with closed:=true}:bA))).length):=by
        show n=_
        rw[List.length_set];exact iE.out
       clear hset
       obtain⟨g2,off2,Zi,q0,-,-,hlc,qf,hgr,hg1,hg2,hr1,gf,d0,d1,d2,d3,d4,d5⟩:=hcut.facts Uu.out
       rw[←RS.out]at q0
       have KG:=gf (off2+k*6+4)
       have FK:=Lib.hid hcut
       have Pg:=Lib.hid q0
       clear hcut qf gf hlc
       go_upto_region 10 with(fail)
       go_cut [] (fun wx=>bH F w r (aX id (fun x:bA=>{x with closed:=true,aO:=aO}) T) (.tuple #[]) (.returned (.tuple #[])) wx)
       case first=>
        go_wp2_with fail
        go_meet
        have h0:=Pg.out
        rw[RS.out]at h0
        have:=bP.iG FK.out (by rw[←RS.out]at h0⊢;exact h0) (k:=k) (j:=4) (q':=(id,{x with closed:=true,aO:=aO})) (v:= .int .u64 aO) Uu.out (by omega) rfl
        rw[←Nat.add_assoc]at this
        rw[List.set_set]at this
        have h7:=fQ.pF HH.out vW.out this (.tuple #[])
        have h8:=mg (f:=fun x:bA=>{x with closed:=true,aO:=aO}) HS.out Bq.out
        simp only at h8
        rw[h8]at h7
        refine⟨h7.1,h7.2.1,?_⟩
        rw[mG (fun _=>by exact rfl),kN (fun _=>by exact rfl)]
        exact h7.2.2
       case rest=>
        clear q0 d0 d1 d2 d3 d4 d5 KG hgr hg1 hg2 hr1
        obtain⟨w3,rfl⟩:∃w3:World,w3=wc:=⟨_,rfl⟩
        have HT3:=Lib.hid hcut
        have xI:=hcut.2.2
        have hr3:r<w3.heap.size:=xI.low r xI.own
        have hset:(aX id (fun x:bA=>{x with closed:=true,aO:=aO}) T)[k]? =some (id,({x with closed:=true,aO:=aO}:bA)):=by
         have h8:=mg (f:=fun x:bA=>{x with closed:=true,aO:=aO}) HS.out Bq.out
         simp only at h8
         have hk1:k<T.length:=by have:=iE.out;omega
         rw[←h8,List.getElem?_set_self hk1]
        obtain⟨bG,oG,cG,e0,WZ,hbG,W9,-,-,e2,-,-,-⟩:=xI.node hset
        simp only at e2
        rw[fT,←iE.out]at e0
        have RU:Hid (ah id (aX id (fun x:bA=>{x with closed:=true,aO:=aO}) T)=some ({x with closed:=true,aO:=aO}:bA)):=by
         show ah id (aX id (fun x:bA=>{x with closed:=true,aO:=aO}) T)=_
         rw[aS,if_pos rfl,HX.out]
         rfl
        have HSL:Hid (aI gH (aX id (fun x:bA=>{x with closed:=true,aO:=aO}) T)∧(aX id (fun x:bA=>{x with closed:=true,aO:=aO}) T).length≤64):=by
         refine⟨jL _ _ HS.out,?_⟩
         rw[fT,←iE.out]
         exact hlen
        have CX:=Lib.hid (qO id _ w3 xI HSL.out.1 HSL.out.2 RU.out (vV.out.file (vV.out.kind.resolve_right hkx)))
        clear hcut xI hset WZ W9
        go_wp2_with fail
        (with_reducible refine CX.out.mono ?_)
        rintro e w4 MK
        have wH:=Lib.hid MK
        obtain rfl:=MK.1
        clear MK
        go_wp2_with fail
        go_ret
        rw[HQ.out]
        exact(HT3.out.trans HH.out.low wH.out).val _
    ·rw[if_neg h9]at HQ
     have e9:(x.links==0)=false:=by simpa using h9
     clear h9
     go_enter Tryz.func32,Tryz.ntmps32
     go_wp2_with fail
     (with_reducible refine HF.out.mono ?_)
     rintro e w1 ⟨rfl,rfl⟩
     go_upto_region 8 with(fail)
     go_cut [] (fun wx=>bP w r (.slice aD (List.map (fun q:Int×bA=>q.2.b) T).length cD) (.slice aE (aU T).length cE) T wx)
     case first=>
      go_wp2_with ((at_builtin;refine fA rfl _ _ 94 rfl w.heap.size 101 _ _ 6 48 Tryz.underlying94 jh.out.1 jh.out.2.1 jh.out.2.2.1 jh.out.2.2.2 rfl (by omega) _ 0 [] rfl (eH (MapKept.heap_alloc w _).1 (Nat.le_refl _)) _ n _ (T.flatMap dx) rfl (JG.out.below ((Below.refl _ _).alloc (Nat.le_refl _) _) (Nat.le_refl _)) (f_ _) (by unfold maxLen;omega) (by omega) (by simp) ?_;intro A1 c1' w1 hown1 hb1;have hB1:=((Below.refl w.heap.size w).alloc (Nat.le_refl _) _).trans hb1;have hf1:w1.frozen? ⟨r,0,none⟩=false:=(hB1.frozen (p:=⟨r,0,none⟩) hrw).trans hf0;have Pf:=(hB1.cell (p:=⟨r,0,none⟩) hrw).trans p0))
      go_meet
      obtain⟨-,hcc,-,hrow2⟩:=mh (w:=w) hown1 (by unfold maxLen;omega) (Nat.le_refl _)
      have hn:=iE.out
      rw[List.nil_append,Nat.zero_add,hn]at hrow2
      rw[Nat.zero_add,hn]at hcc
      have:=bP.RH hrw vW.out hB1 hcc hrow2 (jR hown1)
      rw[←hn]at this
      exact this
     case rest=>
      obtain⟨w1,rfl⟩:∃w1:World,w1=wc:=⟨_,rfl⟩
      obtain⟨g,off,c,q0,-,-,hlc,qf,hgr,hg1,hg2,hr1,gf,d0,d1,d2,d3,d4,d5⟩:=hcut.facts Bq.out
      rw[←iE.out]at q0
      have KG:=gf (off+k*6+5)
      have HM:=Lib.hid hcut
      have MF:=Lib.hid q0
      clear hcut qf gf hlc
      go_upto_region 9 with(fail)
      go_cut [] (fun wx=>bP w r (.slice aD (List.map (fun q:Int×bA=>q.2.b) T).length cD) (.slice aE (aU T).length cE) (T.set k (id,({x with closed:=true}:bA))) wx)
      case first=>
       go_wp2_with fail
       go_meet
       have h0:=MF.out
       rw[iE.out]at h0
       have:=bP.iG HM.out (by rw[←iE.out]at h0⊢;exact h0) (k:=k) (j:=5) (q':=(id,{x with closed:=true})) (v:= .bool true) Bq.out (by omega) rfl
       rw[←Nat.add_assoc]at this
       exact this
      case rest=>
       clear q0 d0 d1 d2 d3 d4 d5 KG hgr hg1 hg2 hr1
       obtain⟨w2,rfl⟩:∃w2:World,w2=wc:=⟨_,rfl⟩
       have hset:(T.set k (id,({x with closed:=true}:bA)))[k]? =some (id,({x with closed:=true}:bA)):=by
        have hk1:k<T.length:=by have:=iE.out;omega
        rw[List.getElem?_set_self hk1]
       have Uu:=Lib.hid hset
       have RS:Hid (n=(T.set k (id,({x with closed:=true}:bA))).length):=by
        show n=_
        rw[List.length_set];exact iE.out
       clear hset
       obtain⟨g2,off2,Zi,q0,-,-,hlc,qf,hgr,hg1,hg2,hr1,gf,d0,d1,d2,d3,d4,d5⟩:=hcut.facts Uu.out
       rw[←RS.out]at q0
       have KG:=gf (off2+k*6+4)
       have FK:=Lib.hid hcut
       have Pg:=Lib.hid q0
       clear hcut qf gf hlc
       go_upto_region 10 with(fail)
       go_cut [] (fun wx=>bH F w r (aX id (fun x:bA=>{x with closed:=true,aO:=aO}) T) (.tuple #[]) (.returned (.tuple #[])) wx)
       case first=>
        go_wp2_with fail
        go_meet
        have h0:=Pg.out
        rw[RS.out]at h0
        have:=bP.iG FK.out (by rw[←RS.out]at h0⊢;exact h0) (k:=k) (j:=4) (q':=(id,{x with closed:=true,aO:=aO})) (v:= .int .u64 aO) Uu.out (by omega) rfl
        rw[←Nat.add_assoc]at this
        rw[List.set_set]at this
        have h7:=fQ.pF HH.out vW.out this (.tuple #[])
        have h8:=mg (f:=fun x:bA=>{x with closed:=true,aO:=aO}) HS.out Bq.out
        simp only at h8
        rw[h8]at h7
        refine⟨h7.1,h7.2.1,?_⟩
        rw[mG (fun _=>by exact rfl),kN (fun _=>by exact rfl)]
        exact h7.2.2
       case rest=>
        clear q0 d0 d1 d2 d3 d4 d5 KG hgr hg1 hg2 hr1
        obtain⟨w3,rfl⟩:∃w3:World,w3=wc:=⟨_,rfl⟩
        have HT3:=Lib.hid hcut
        have xI:=hcut.2.2
        have hr3:r<w3.heap.size:=xI.low r xI.own
        have hset:(aX id (fun x:bA=>{x with closed:=true,aO:=aO}) T)[k]? =some (id,({x with closed:=true,aO:=aO}:bA)):=by
         have h8:=mg (f:=fun x:bA=>{x with closed:=true,aO:=aO}) HS.out Bq.out
         simp only at h8
         have hk1:k<T.length:=by have:=iE.out;omega
         rw[←h8,List.getElem?_set_self hk1]
        obtain⟨bG,oG,cG,e0,WZ,hbG,W9,-,-,e2,-,-,-⟩:=xI.node hset
        simp only at e2
        rw[fT,←iE.out]at e0
        have RU:Hid (ah id (aX id (fun x:bA=>{x with closed:=true,aO:=aO}) T)=some ({x with closed:=true,aO:=aO}:bA)):=by
         show ah id (aX id (fun x:bA=>{x with closed:=true,aO:=aO}) T)=_
         rw[aS,if_pos rfl,HX.out]
         rfl
        have HSL:Hid (aI gH (aX id (fun x:bA=>{x with closed:=true,aO:=aO}) T)∧(aX id (fun x:bA=>{x with closed:=true,aO:=aO}) T).length≤64):=by
         refine⟨jL _ _ HS.out,?_⟩
         rw[fT,←iE.out]
         exact hlen
        have CX:=Lib.hid (qO id _ w3 xI HSL.out.1 HSL.out.2 RU.out (vV.out.file (vV.out.kind.resolve_right hkx)))
        clear hcut xI hset WZ W9
        go_wp2_with fail
        go_ret
        rw[HQ.out]
        exact HT3.out.val _
 ·have HQ:=Lib.hid (vX (T:=T) (id:=id) (aO:=aO) (v:=bM T id) (by
   unfold pX bM at*
   cases hx:ah id T with
   |none=>rfl
   |some x=>
    rw[hx]at h0
    by_cases hk:x.kind=2
    ·simp[hk]
    ·exact absurd (by simp[hk]) h0) h0)
  generalize bM T id=f at*
  have hne:(f==0)=false:=by simpa using h0
  have hne2:(f !=0)=true:=by simpa using h0
  clear h hT h0
  go_enter Tryz.func32,Tryz.ntmps32
  go_wp2_with fail
  (with_reducible refine HF.out.mono ?_)
  rintro e w1 ⟨rfl,rfl⟩
  go_wp2_with fail
  go_ret
  exact bH.no HH.out (Below.refl _ _) HQ.out
end
theorem Br {T:aF} {id v:Int} (h:lV T id=v) (hv:v≠0):eD T id=(v,T):=by
 unfold eD
 rw[h,if_neg hv]
def kD (E:List iM) (id:Int) (m:Nat):List iM:=E.take m++(E.drop m).filter fun e=> !decide (e.2.2=id)
theorem JQ {E:List iM} {id:Int} {m:Nat} {e:iM} (hx:E[m]? =some e):(kD E id (m+1))[m]? =some e:=by
 obtain⟨hm,h⟩:=List.getElem?_eq_some_iff.1 hx
 unfold kD
 rw[List.getElem?_append_left (by rw[List.length_take];omega),List.getElem?_take,if_pos (by omega)]
 exact hx
theorem JR {E:List iM} {id:Int} {m:Nat} (hm:m≤E.length):m≤(kD E id m).length∧(kD E id m).length≤E.length:=by
 unfold kD
 have:=List.length_filter_le (fun e:iM=> !decide (e.2.2=id)) (E.drop m)
 rw[List.length_drop]at this
 rw[List.length_append,List.length_take]
 omega
theorem JU {E:List iM} {id:Int} {m:Nat} {e:iM} (hx:E[m]? =some e) (he:e.2.2=id):(kD E id (m+1)).take m++(kD E id (m+1)).drop (m+1)=kD E id m:=by
 obtain⟨hm,h⟩:=List.getElem?_eq_some_iff.1 hx
 unfold kD
 have hl:(E.take (m+1)).length=m+1:=by rw[List.length_take];omega
 rw[List.take_append_of_le_length (by omega),List.take_take,Nat.min_eq_left (by omega),List.drop_append_of_le_length (by omega),List.drop_of_length_le (by omega),List.nil_append]
 congr 1
 rw[List.drop_eq_getElem_cons hm,h,List.filter_cons]
 simp[he]
theorem ML {E:List iM} {id:Int} {m:Nat} {e:iM} (hx:E[m]? =some e) (he:e.2.2≠id):kD E id (m+1)=kD E id m:=by
 obtain⟨hm,h⟩:=List.getElem?_eq_some_iff.1 hx
 unfold kD
 rw[List.take_succ_eq_append_getElem hm,h,List.drop_eq_getElem_cons hm,h,List.filter_cons]
 simp[he]
section
variable {F:Nat→Prop} {r:Nat} {T:aF}
set_option maxRecDepth 100000 in
set_option maxHeartbeats 8000000 in
theorem JV (id:Int) (w:World) (h:gW F w r T) (hT:fB T):
  Calls Tryz.prog 112 #[ptr r, .int .i64 id] w (bH F w r (eD T id).2 (.int .i64 (eD T id).1)):=by
 have HF:=Lib.hid (oo id w h hT.torz)
 have hr0:=h.low r h.own
 have HH:=Lib.hid h
 by_cases h0:bM T id=0
 ·obtain⟨x,hx,hk⟩:∃x,ah id T=some x∧x.kind≠2:=by
   unfold bM at h0
   cases hx:ah id T with
   |none=>rw[hx]at h0;cases h0
   |some x=>
    rw[hx]at h0
    exact⟨x,rfl,fun hk=>by simp[hk]at h0⟩
  obtain⟨k,hi,hq⟩:=jr hT.sorted hx
  have hrf:Ec T id=k:=by unfold Ec;rw[if_pos h0];exact hi
  rw[hrf,h0]at HF
  obtain⟨bN,oN,cN,hc0,hO,hbw,hkl,c0,c1,c2,c3,c4,c5⟩:=h.node hq
  simp only at c0 c1 c2 c3 c4 c5
  have i0:(0:Int)≤k:=by omega
  have hlen:=hT.len
  have Bq:=Lib.hid hq
  have HS:=Lib.hid hT.sorted
  have hr1:=hr0
  have vV:=Lib.hid (hT.each id x hx)
  have HX:=Lib.hid hx
  have hkx:=hk
  have ug:=gX hT
  have HTT:=Lib.hid hT
  have NZ:=Lib.hid (rfl:T.length=T.length)
  obtain⟨aE,cE,p2,-,-,-⟩:=h.ent
  obtain⟨n,hn⟩:∃n,n=(aU T).length:=⟨_,rfl⟩
  rw[←hn]at p2 ug
  have iE:=Lib.hid hn
  obtain⟨tl,htl⟩:∃tl,tl=T.length:=⟨_,rfl⟩
  rw[←htl]at hc0 hkl hlen
  have i1:(k:Int)<tl:=by omega
  have he:lV T id=if x.closed then 27 else 0:=by
   unfold lV
   rw[hx]
   simp only[if_neg hk]
  clear hx hk h hT h0 hn htl hi hq hrf hO
  cases hcl:x.closed with
  |true=>
   rw[hcl]at c5
   have HQ:=Lib.hid (Br (he.trans (if_pos hcl)) (by omega))
   clear hcl he
   go_enter Tryz.func112,Tryz.ntmps112
   go_wp2_with fail
   (with_reducible refine HF.out.mono ?_)
   rintro e w1 ⟨rfl,rfl⟩
   go_wp2_with fail
   go_ret
   exact bH.no HH.out (Below.refl _ _) HQ.out
  |false=>
   rw[hcl]at c5
   have HQ:Hid (eD T id=(0,bB id (dV T id))):=by
    show eD T id=_
    unfold eD
    rw[he,if_neg (by rw[hcl];decide)]
    rfl
   clear hcl he
   have e1:IntKind.i64.wrap ((n:Int)-1)=(n:Int)-1:=IntWalk.i64_in _ (by omega)
   go_enter Tryz.func112,Tryz.ntmps112
   go_wp2_with fail
   (with_reducible refine HF.out.mono ?_)
   rintro e w1 ⟨rfl,rfl⟩
   go_wp2_with fail
   go_loopw [7] (fun i wr=>∃m:Nat,m≤n∧i= .int .i64 ((m:Int)-1)∧dB F w r T (T.map fun q=>q.2.b) (kD (aU T) id m) (.tuple #[]) (.returned (.tuple #[])) wr) (fun i _=>(intOf i+1).toNat)
   case atStart=>
    refine⟨n,Nat.le_refl _,rfl,?_⟩
    have e2:kD (aU T) id n=aU T:=by
     unfold kD
     have:=iE.out
     rw[List.take_of_length_le (by omega),List.drop_of_length_le (by omega)]
     simp
    rw[e2]
    exact dB.same HH.out (Below.refl _ _)
   case round=>
    obtain⟨m,hm,rfl,hTr⟩:=hrel
    have Uv:=Lib.hid hTr
    clear hTr
    cases m with
    |zero=>
     have HR:Hid (bH F w r (dV T id) (.tuple #[]) (.returned (.tuple #[])) wr):=by
      refine⟨rfl,Uv.out.2.1,?_⟩
      have h1:=Uv.out.2.2.names (T':=dV T id) (by unfold dV;rw[List.length_map]) (Eb id T)
      rw[show kD (aU T) id 0=(aU T).filter fun e=> !decide (e.2.2=id)by unfold kD;simp,←yS,←Gg id T]at h1
      exact h1
     have hP:=HTT.out.torz.strip id
     have CX:=Lib.hid (qO id (fF id x) wr HR.out.2.2 hP.sorted hP.len (by rw[iI,HX.out];rfl) (by
      unfold fF
      simp only
      rw[vV.out.file (vV.out.kind.resolve_right hkx)]
      rfl))
     clear hP
     rw[show((0:Nat):Int)-1= -1 by rfl]
     go_wp2_with fail
     (with_reducible refine CX.out.mono ?_)
     rintro e w4 MK
     have wH:=Lib.hid MK
     obtain rfl:=MK.1
     clear MK
     go_wp2_with fail
     go_ret
     rw[HQ.out]
     exact(HR.out.trans HH.out.low wH.out).val _
    |succ j=>
     have hjn:j<(aU T).length:=by have:=iE.out;omega
     have hx:(aU T)[j]? =some ((aU T)[j]'hjn):=List.getElem?_eq_getElem _
     obtain⟨q,hqe⟩:∃q,q=(aU T)[j]'hjn:=⟨_,rfl⟩
     rw[←hqe]at hx
     have N7:=Lib.hid hx
     have hR:=Uv.out.2.2
     have hrr:r<wr.heap.size:=hR.low r hR.own
     obtain⟨aR,cR,s2,-,hrow,-⟩:=hR.ent
     have hdl:=JR (E:=aU T) (id:=id) (m:=j+1) (by omega)
     have Cg:=Lib.hid (Ik j wr hR (by omega) (by have:=iE.out;omega))
     rw[show((j+1:Nat):Int)-1=(j:Int)by omega]
     obtain⟨b,off,rfl,hF,hb,hi,hc⟩:=hrow.wide iw rfl (JQ hx) (by omega)
     have d2:wr.cell? ⟨b,off+j*3+2,none⟩=some (.int .i64 q.2.2):=hc 2 (by omega)
     obtain⟨dl,RV⟩:∃dl,dl=(kD (aU T) id (j+1)).length:=⟨_,rfl⟩
     rw[←RV]at s2 hdl hi
     have j0:(0:Int)≤j:=by omega
     have j1:(j:Int)<dl:=by omega
     have e2:IntKind.i64.wrap ((j:Int)-1)=(j:Int)-1:=IntWalk.i64_in _ (by omega)
     clear hx hqe hR hrow hc RV
     by_cases hp:q.2.2=id
     ·have hpp:(q.2.2==id)=true:=by simpa using hp
      have HP:=Lib.hid (JU N7.out hp)
      clear hp
      go_wp2_with fail
      (with_reducible refine Cg.out.mono ?_)
      rintro e w4 MK
      have wH:=Lib.hid MK
      obtain rfl:=MK.1
      clear MK
      go_wp2_with fail
      go_roundw
      case rel=>exact⟨j,by omega,rfl,by rw[←HP.out];exact Uv.out.trans HH.out.low wH.out⟩
      case measure=>simp[intOf]
     ·have hpp:(q.2.2==id)=false:=by simpa using hp
      have HP:=Lib.hid (ML N7.out hp)
      clear hp
      go_wp2_with fail
      go_roundw
      case rel=>exact⟨j,by omega,rfl,by rw[←HP.out];exact Uv.out⟩
      case measure=>simp[intOf]
 ·have HQ:=Lib.hid (Br (T:=T) (id:=id) (v:=bM T id) (by
   unfold lV bM at*
   cases hx:ah id T with
   |none=>rfl
   |some x=>
    rw[hx]at h0
    by_cases hk:x.kind=2
    ·simp[hk]
    ·exact absurd (by simp[hk]) h0) h0)
  generalize bM T id=f at*
  have hne:(f==0)=false:=by simpa using h0
  have hne2:(f !=0)=true:=by simpa using h0
  clear h hT h0
  go_enter Tryz.func112,Tryz.ntmps112
  go_wp2_with fail
  (with_reducible refine HF.out.mono ?_)
  rintro e w1 ⟨rfl,rfl⟩
  go_wp2_with fail
  go_ret
  exact bH.no HH.out (Below.refl _ _) HQ.out
end
abbrev Eo (r:Nat) (w:World) (id:Int) (n:Nat):Prop:=Calls Tryz.prog 152 #[ptr r, .int .i64 id] w fun e w'=>e= .returned (.int .i64 n)∧Below w.heap.size w w'
def uQ (E:List iM) (id:Int) (d:Int→Nat) (M k m:Nat):Prop:=m≤M∧∀e∈E.take k,e.1=id→1+d e.2.2≤m
theorem uQ.step {E:List iM} {id:Int} {d:Int→Nat} {M k m m':Nat} {e:iM} (h:uQ E id d M k m) (hx:E[k]? =some e) (hm:m≤m') (hM:m'≤M) (he:e.1=id→1+d e.2.2≤m'):uQ E id d M (k+1) m':=by
 obtain⟨hk,h2⟩:=List.getElem?_eq_some_iff.1 hx
 refine⟨hM,fun y hy hyi=> ?_⟩
 rw[List.take_succ_eq_append_getElem hk,h2]at hy
 rcases List.mem_append.1 hy with h3|h3
 ·exact Nat.le_trans (h.2 y h3 hyi) hm
 ·simp only[List.mem_singleton]at h3
  subst h3
  exact he hyi
section
variable {F:Nat→Prop} {r:Nat} {T:aF}
set_option maxRecDepth 100000 in
set_option maxHeartbeats 8000000 in
theorem zh (id:Int) (x:bA) (d:Int→Nat) (w:World) (h:gW F w r T) (hT:fB T) (hx:ah id T=some x) (hd:∀e∈x.names,d e.2≤64) (hd0:∀e∈x.names,bf T e.2≠2→d e.2=0)
  (hc:∀e∈x.names,bf T e.2=2→∀w1,Below w.heap.size w w1→Eo r w1 e.2 (d e.2)):Eo r w id (maxD d x.names):=by
 have hE:=gX hT
 have hr0:=h.low r h.own
 have HH:=Lib.hid (fun w1 (hb:Below w.heap.size w w1)=>h.below hb (Nat.le_refl _))
 have HT:=Lib.hid hT
 have HX:=Lib.hid hx
 have HD:=Lib.hid hd
 have HD0:=Lib.hid hd0
 have HC:=Lib.hid hc
 obtain⟨n,hn⟩:∃n,n=(aU T).length:=⟨_,rfl⟩
 rw[←hn]at hE
 have HL:=Lib.hid hn
 have hmd:maxD d x.names≤65:=maxD_le d fun e he=>by have:=hd e he;omega
 obtain⟨M,hM⟩:∃M,M=maxD d x.names:=⟨_,rfl⟩
 rw[←hM]at hmd⊢
 have HM:=Lib.hid hM
 clear h hT hx hd hd0 hc hn hM
 unfold Eo
 go_enter Tryz.func152,Tryz.ntmps152
 go_wp2_with fail
 go_loopw [5,6] (fun v i wr=>∃k m:Nat,k≤n∧i= .int .i64 k∧v= .int .i64 m∧uQ (aU T) id d M k m∧Below w.heap.size w wr) (fun _ i _=>n-(intOf i).toNat)
 case atStart=>exact⟨0,0,by omega,rfl,rfl,⟨Nat.zero_le _,by simp⟩,Below.refl _ _⟩
 case round=>
  obtain⟨k,m,hk,rfl,rfl,hrel,hB⟩:=hrel
  have HR:=Lib.hid hrel
  have HB:=Lib.hid hB
  have W_:=hrel.1
  have hs:=hB.size
  obtain⟨aE,cE,s2,-,hrow,-⟩:=(HH.out wr hB).ent
  rw[←HL.out]at s2 hrow
  have hrr:r<wr.heap.size:=by omega
  clear hrel hB
  by_cases hlt:k<n
  ·have hkn:k<(aU T).length:=by have:=HL.out;omega
   have hx:(aU T)[k]? =some ((aU T)[k]'hkn):=List.getElem?_eq_getElem _
   obtain⟨q,hqe⟩:∃q,q=(aU T)[k]'hkn:=⟨_,rfl⟩
   rw[←hqe]at hx
   have HQ:=Lib.hid hx
   obtain⟨b,off,rfl,hF,hb,hi,hcc⟩:=hrow.wide iw HL.out.symm hx (by omega)
   have c0:wr.cell? ⟨b,off+k*3,none⟩=some (.int .i64 q.1):=hcc 0 (by omega)
   have c2:wr.cell? ⟨b,off+k*3+2,none⟩=some (.int .i64 q.2.2):=hcc 2 (by omega)
   have i0:(0:Int)≤k:=by omega
   have i1:(k:Int)<n:=by omega
   clear hx hqe hrow hcc
   by_cases hp:q.1=id
   ·have hpp:(q.1==id)=true:=by simpa using hp
    have hmem:q.2∈x.names:=by
     obtain⟨z,hz,hm⟩:=(jw HT.out.sorted).1 (List.mem_of_getElem? HQ.out)
     rw[hp,HX.out]at hz
     cases hz
     exact hm
    obtain⟨y,hy⟩:=Option.isSome_iff_exists.1 (HT.out.leads id x HX.out _ hmem).1
    have vg:=Lib.hid (jP q.2.2 wr (HH.out wr HB.out) HT.out.torz)
    have hnd:iD T q.2.2=iJ q.2.2 y:=by unfold iD;rw[hy]
    rw[hnd]at vg
    unfold iJ at vg
    have hge:1+d q.2.2≤M:=by rw[HM.out];exact uj d hmem
    by_cases hk2:y.kind=2
    ·rw[hk2]at vg
     have Rm:=Lib.hid (HC.out _ hmem ((aY hy).trans hk2))
     obtain⟨dd,hdd⟩:∃dd,dd=d q.2.2:=⟨_,rfl⟩
     rw[←hdd]at Rm hge
     have Uw:=Lib.hid hdd
     have e1:IntKind.i64.wrap (1+(dd:Int))=1+(dd:Int):=IntWalk.i64_in _ (by omega)
     clear hp hnd hy hk2 hmem hdd
     by_cases hgt:m<1+dd
     ·have hg2:decide ((m:Int)<1+(dd:Int))=true:=by simp;omega
      go_wp2_with fail
      (with_reducible refine vg.out.mono ?_)
      rintro e w3 ⟨rfl,hb3⟩
      have HB3:=Lib.hid (HB.out.trans (hb3.mono hs))
      have hs3:=hb3.size
      have s2':w3.cell? ⟨r,2,none⟩=some (.slice (some ⟨b,off,none⟩) n cE):=(hb3.cell (p:=⟨r,2,none⟩) hrr).trans s2
      have c2':w3.cell? ⟨b,off+k*3+2,none⟩=some (.int .i64 q.2.2):=(hb3.cell (p:=⟨b,off+k*3+2,none⟩) hb).trans c2
      have hr3:r<w3.heap.size:=by omega
      have RX:b<w3.heap.size:=by omega
      clear hb3 s2 c2 c0
      go_wp2_with fail
      (with_reducible refine Calls.mono (Rm.out _ (HB3.out.trans ((wall w3 _).mono HB3.out.size))) ?_)
      rintro e w4 ⟨rfl,hb4⟩
      have dS:=Lib.hid ((HB3.out.trans ((wall w3 _).mono HB3.out.size)).trans (hb4.mono (by simp;omega)))
      clear hb4
      go_wp2_with fail
      go_roundw
      case rel=>exact⟨k+1,1+dd,by omega,by go_num,by go_num,HR.out.step HQ.out (by omega) (by omega) (fun _=>by rw[Uw.out];exact Nat.le_refl _),dS.out⟩
      case measure=>simp[intOf];omega
     ·have hg2:decide ((m:Int)<1+(dd:Int))=false:=by simp;omega
      go_wp2_with fail
      (with_reducible refine vg.out.mono ?_)
      rintro e w3 ⟨rfl,hb3⟩
      have HB3:=Lib.hid (HB.out.trans (hb3.mono hs))
      have hs3:=hb3.size
      have s2':w3.cell? ⟨r,2,none⟩=some (.slice (some ⟨b,off,none⟩) n cE):=(hb3.cell (p:=⟨r,2,none⟩) hrr).trans s2
      have c2':w3.cell? ⟨b,off+k*3+2,none⟩=some (.int .i64 q.2.2):=(hb3.cell (p:=⟨b,off+k*3+2,none⟩) hb).trans c2
      have hr3:r<w3.heap.size:=by omega
      have RX:b<w3.heap.size:=by omega
      clear hb3 s2 c2 c0
      go_wp2_with fail
      (with_reducible refine Calls.mono (Rm.out _ (HB3.out.trans ((wall w3 _).mono HB3.out.size))) ?_)
      rintro e w4 ⟨rfl,hb4⟩
      have dS:=Lib.hid ((HB3.out.trans ((wall w3 _).mono HB3.out.size)).trans (hb4.mono (by simp;omega)))
      clear hb4
      go_wp2_with fail
      go_roundw
      case rel=>exact⟨k+1,m,by omega,by go_num,rfl,HR.out.step HQ.out (Nat.le_refl _) W_ (fun _=>by rw[←Uw.out];omega),dS.out⟩
      case measure=>simp[intOf];omega
    ·have e2:(y.kind==2)=false:=by simpa using hk2
     have hd1:d q.2.2=0:=HD0.out _ hmem (by rw[aY hy];exact hk2)
     rw[hd1]at hge
     have Uw:=Lib.hid hd1
     clear hp hnd hy hk2 hmem hd1
     by_cases hgt:m<1
     ·have hg2:decide ((m:Int)<1)=true:=by simp;omega
      go_wp2_with fail
      (with_reducible refine vg.out.mono ?_)
      rintro e w3 ⟨rfl,hb3⟩
      have HB3:=Lib.hid (HB.out.trans (hb3.mono hs))
      clear hb3
      go_wp2_with fail
      go_roundw
      case rel=>exact⟨k+1,1,by omega,by go_num,rfl,HR.out.step HQ.out (by omega) (by omega) (fun _=>by rw[Uw.out];exact Nat.le_refl _),HB3.out.trans ((wall w3 _).mono HB3.out.size)⟩
      case measure=>simp[intOf];omega
     ·have hg2:decide ((m:Int)<1)=false:=by simp;omega
      go_wp2_with fail
      (with_reducible refine vg.out.mono ?_)
      rintro e w3 ⟨rfl,hb3⟩
      have HB3:=Lib.hid (HB.out.trans (hb3.mono hs))
      clear hb3
      go_wp2_with fail
      go_roundw
      case rel=>exact⟨k+1,m,by omega,by go_num,rfl,HR.out.step HQ.out (Nat.le_refl _) W_ (fun _=>by rw[Uw.out];omega),HB3.out.trans ((wall w3 _).mono HB3.out.size)⟩
      case measure=>simp[intOf];omega
   ·have hpp:(q.1==id)=false:=by simpa using hp
    have HP:=Lib.hid hp
    clear hp
    go_wp2
    go_roundw
    case rel=>exact⟨k+1,m,by omega,by go_num,rfl,HR.out.step HQ.out (Nat.le_refl _) W_ (fun h=>absurd h HP.out),HB.out⟩
    case measure=>simp[intOf];omega
  ·go_wp2
   go_ret
   refine⟨fK ?_,HB.out⟩
   have:M≤m:=by
    rw[HM.out]
    refine maxD_le d fun e he=>HR.out.2 (id,e.1,e.2) ?_ rfl
    rw[List.take_of_length_le (by have:=HL.out;omega)]
    exact(jw HT.out.sorted).2 ⟨x,HX.out,he⟩
   omega
theorem zi {T:aF} (hT:fB T) {id:Int} (hk:bf T id≠2):∀n,gy T n id=0
 |0=>rfl
 |n+1=>by
  show maxD (gy T n) (aJ T id)=0
  unfold aJ bf at*
  cases hx:ah id T with
  |none=>rfl
  |some x=>
   rw[hx]at hk
   simp only at hk⊢
   rw[(hT.each id x hx).file ((hT.each id x hx).kind.resolve_right hk)]
   rfl
theorem Bt (hT:fB T):∀(n:Nat) (id:Int) (w:World),gW F w r T→(ah id T).isSome=true→um T n id→n≤64→Eo r w id (gy T n id)
 |0,id,w,h,hi,hs,hn=>by
  obtain⟨x,hx⟩:=Option.isSome_iff_exists.1 hi
  have e:x.names=[]:=by have h1:aJ T id=[]:=hs;unfold aJ at h1;rw[hx]at h1;exact h1
  have:=zh id x (fun _=>0) w h hT hx (fun _ _=>Nat.zero_le _) (fun _ _ _=>rfl) (fun y he=>by rw[e]at he;cases he)
  rw[e]at this
  exact this
 |n+1,id,w,h,hi,hs,hn=>by
  obtain⟨x,hx⟩:=Option.isSome_iff_exists.1 hi
  have e:aJ T id=x.names:=by unfold aJ;rw[hx]
  have hs':∀e∈x.names,um T n e.2:=fun y hy=>hs y (by rw[e];exact hy)
  have:=zh id x (gy T n) w h hT hx (fun y hy=>Nat.le_trans (hs' y hy).le (by omega)) (fun y hy hk=>zi hT hk n) (fun y hy _ w1 hb=>
   Bt hT n y.2 w1 (h.below hb (Nat.le_refl _)) (hT.leads id x hx y hy).1 (hs' y hy) (by omega))
  rw[←e]at this
  exact this
end
theorem qP {w:World} (n:Nat):Below w.heap.size w (w.drewN n):=⟨rfl,rfl,rfl,Nat.le_refl _,fun _ _=>rfl⟩
theorem Ep {P:Program} {f:FuncId} {args:Array Value} {w:World} {v:Value} (h:Calls P f args w fun e w'=>e= .returned v∧w=w'):Calls P f args w fun e w'=>e= .returned v∧w'=w:=h.mono fun e w' ⟨h1,h2⟩=>⟨h1,h2.symm⟩
section
variable {F:Nat→Prop} {r:Nat} {T:aF}
set_option maxHeartbeats 2000000 in
theorem Bu (d:Int) (nm:Nm) (id j:Int) (x:bA) (w:World) (h:gW F w r T) (hT:fB T) (hx:ah d T=some x) (hn:ah nm x.names=some j):
  Calls Tryz.prog 151 #[ptr r, .int .i64 d, .string (strOf nm), .int .i64 id] w fun e w'=>e= .returned (.int .i64 (if j=id then 0 else 21))∧Below w.heap.size w w':=by
 have hE:(aU T).length≤1000000:=by have:=gX hT;omega
 have H5:=Lib.hid (fun m=>iW d nm (w.drewN m) (h.below (qP m) (Nat.le_refl _)) hE)
 obtain⟨k,hk,he⟩:=om hT.torz hx hn
 rw[hk]at H5
 have hr0:=h.low r h.own
 obtain⟨aE,cE,s2,-,hrow,-⟩:=h.ent
 obtain⟨b,off,rfl,hF,hb,hi,hcc⟩:=hrow.wide iw rfl he (by omega)
 have c2:w.cell? ⟨b,off+k*3+2,none⟩=some (.int .i64 j):=hcc 2 (by omega)
 have i0:(0:Int)≤k:=by omega
 have i1:(k:Int)<(aU T).length:=by omega
 generalize (aU T).length=n at*
 clear h hT hx hn hk he hrow hcc hE
 by_cases hj:j=id
 ·have e1:(j==id)=true:=by simpa using hj
  rw[if_pos hj]
  clear hj
  go_enter Tryz.func151,Tryz.ntmps151
  go_wp2_with fail
  go_quiet ((go_at_call 74;exact Calls.quiet_of_same (Ep (H5.out _))))
  go_wp2_with fail
  go_ret
  exact⟨rfl,qP _⟩
 ·have e1:(j==id)=false:=by simpa using hj
  rw[if_neg hj]
  clear hj
  go_enter Tryz.func151,Tryz.ntmps151
  go_wp2_with fail
  go_quiet ((go_at_call 74;exact Calls.quiet_of_same (Ep (H5.out _))))
  go_wp2_with fail
  go_ret
  exact⟨rfl,qP _⟩
end
end Go.Proofs.YtjnhnlabpccgjaaGreat
