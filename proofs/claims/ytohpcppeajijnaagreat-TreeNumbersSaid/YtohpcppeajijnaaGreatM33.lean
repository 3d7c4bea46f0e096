/- The reference: Seal. The reference: Drop. The reference: deep. The reference: onto. -/
import Derived.Test.YtohpcppeajijnaaGreatM32
import Derived.Deep.QuietTactic
import Derived.BigQuiet
namespace Go.Proofs.YtohpcppeajijnaaGreat
open Go.ChangeShapes Go.WideShapes Go.ChangeAt Go.RowKit
set_option linter.unusedVariables false
set_option linter.unusedSimpArgs false
section
variable {F:Nat→Prop} {r:Nat} {T:aH}
set_option maxRecDepth 100000 in
set_option maxHeartbeats 8000000 in
theorem Es (id aQ:Int) (w:World) (h:gU F w r T) (hT:dA T) (ht0:0≤aQ∧aQ≤18446744073709551615):
  Calls Tryz.prog 24 #[ptr r, .int .i64 id, .int .u64 aQ] w (bA F w r (eF T id aQ).2 (.int .i64 (eF T id aQ).1)):=by
 have HF:=Lib.hid (mM id w h hT.totF)
 have hr0:=h.low r h.own
 have HH:=Lib.hid h
 by_cases h0:bK T id=0
 ·obtain⟨x,hx,hk⟩:∃x,aj id T=some x∧x.kind≠2:=by
   unfold bK at h0
   cases hx:aj id T with
   |none=>rw[hx]at h0;cases h0
   |some x=>
    rw[hx]at h0
    exact⟨x,rfl,fun hk=>by simp[hk]at h0⟩
  obtain⟨k,hi,hq⟩:=iO hT.sorted hx
  have hrf:zB T id=k:=by unfold zB;rw[if_pos h0];exact hi
  rw[hrf,h0]at HF
  obtain⟨bN,oN,cN,hc0,hO,hbw,hkl,c0,c1,c2,c3,c4,c5⟩:=h.node hq
  simp only at c0 c1 c2 c3 c4 c5
  have i0:(0:Int)≤k:=by omega
  have hlen:=hT.len
  have xE:=Lib.hid hq
  have HS:=Lib.hid hT.sorted
  obtain⟨i6,a6,b6,s6,d6⟩:=info_parts nodeInfo
  have fD:=Lib.hid (And.intro a6 (And.intro b6 (And.intro s6 d6)))
  obtain⟨aN,SI,aD,cD,aE,cE,h1,h2,h3,h4,h8,h9,h10,h11⟩:=h.head
  obtain⟨p0,p1,p2,pf⟩:=eB h1
  rw[p0]at hc0
  simp only[Option.some.injEq,Value.slice.injEq,true_and]at hc0
  obtain⟨rfl,rfl⟩:=hc0
  have nM:=Lib.hid h1
  have Fa:=Lib.hid h8
  obtain⟨n,hn⟩:∃n,n=T.length:=⟨_,rfl⟩
  rw[←hn]at p0 hlen hkl h2 Fa
  have gW:=Lib.hid hn
  have hf0:=pf 0
  have hfp:=hO.2
  have i1:(k:Int)<n:=by omega
  have hrw:=hr0
  have nN:=Lib.hid (hT.each id x hx)
  have HX:=Lib.hid hx
  have hkx:=hk
  clear a6 b6 s6 d6 h1 h8 h9 h10 h11 hi hrf h hq hn p1 p2 pf hO hT h0
  have he:nK T id aQ=if x.closed then 27 else if 1099511627776<aQ then 1 else 0:=by
   unfold nK
   rw[hx]
   simp only[if_neg hk]
  clear hx hk
  cases hcl:x.closed with
  |true=>
   rw[hcl]at c5
   have HQ:=Lib.hid (sD (he.trans (if_pos hcl)) (by omega))
   clear hcl he
   go_enter Tryz.func24,Tryz.ntmps24
   go_wp2_with fail
   (with_reducible refine HF.out.mono ?_)
   rintro e w1 ⟨rfl,rfl⟩
   go_wp2_with fail
   go_ret
   exact bA.no HH.out (Below.refl _ _) HQ.out
  |false=>
   rw[hcl]at c5
   rw[if_neg (by rw[hcl];decide)]at he
   by_cases h6:1099511627776<aQ
   ·have HQ:=Lib.hid (sD (he.trans (if_pos h6)) (by omega))
    have hd6:decide ((1099511627776:Int)<aQ)=true:=by simpa using h6
    clear hcl he
    go_enter Tryz.func24,Tryz.ntmps24
    go_wp2_with fail
    (with_reducible refine HF.out.mono ?_)
    rintro e w1 ⟨rfl,rfl⟩
    go_wp2_with fail
    go_ret
    exact bA.no HH.out (Below.refl _ _) HQ.out
   ·have hd6:decide ((1099511627776:Int)<aQ)=false:=by simpa using h6
    have HQ:Hid (eF T id aQ=(0,if x.links=0 then bH id (bf id (fun x:bF=>{x with closed:=true,aQ:=aQ}) T)else(bf id (fun x:bF=>{x with closed:=true,aQ:=aQ}) T))):=by
     show eF T id aQ=_
     unfold eF fG
     rw[he,if_neg h6]
     refine Prod.ext rfl ?_
     show(match aj id (bf id (fun x:bF=>{x with closed:=true,aQ:=aQ}) T)with|none=>(bf id (fun x:bF=>{x with closed:=true,aQ:=aQ}) T)|some x=>if x.links=0∧x.closed=true then bH id (bf id (fun x:bF=>{x with closed:=true,aQ:=aQ}) T)else(bf id (fun x:bF=>{x with closed:=true,aQ:=aQ}) T))=_
     rw[aS,if_pos rfl,HX.out]
     simp only[Option.map_some,and_true]
    clear hcl he
    by_cases h9:x.links=0
    ·rw[if_pos h9]at HQ
     have e9:(x.links==0)=true:=by simpa using h9
     clear h9
     go_enter Tryz.func24,Tryz.ntmps24
     go_wp2_with fail
     (with_reducible refine HF.out.mono ?_)
     rintro e w1 ⟨rfl,rfl⟩
     go_upto_region 8 with(fail)
     go_cut [] (fun wx=>bL w r (.slice aD (List.map (fun q:Int×bF=>q.2.b) T).length cD) (.slice aE (aU T).length cE) T wx)
     case first=>
      go_wp2_with ((at_builtin;refine eY rfl _ _ 99 rfl w.heap.size 98 _ _ 6 48 Tryz.underlying99 fD.out.1 fD.out.2.1 fD.out.2.2.1 fD.out.2.2.2 rfl (by omega) _ 0 [] rfl (dB (MapKept.heap_alloc w _).1 (Nat.le_refl _)) _ n _ (T.flatMap bV) rfl (Fa.out.below ((Below.refl _ _).alloc (Nat.le_refl _) _) (Nat.le_refl _)) (dI _) (by unfold maxLen;omega) (by omega) (by simp) ?_;intro A1 c1' w1 hown1 hb1;have hB1:=((Below.refl w.heap.size w).alloc (Nat.le_refl _) _).trans hb1;have hf1:w1.frozen? ⟨r,0,none⟩=false:=(hB1.frozen (p:=⟨r,0,none⟩) hrw).trans hf0;have Kn:=(hB1.cell (p:=⟨r,0,none⟩) hrw).trans p0))
      go_meet
      obtain⟨-,hcc,-,hrow2⟩:=kP (w:=w) hown1 (by unfold maxLen;omega) (Nat.le_refl _)
      have hn:=gW.out
      rw[List.nil_append,Nat.zero_add,hn]at hrow2
      rw[Nat.zero_add,hn]at hcc
      have:=bL.Mt hrw nM.out hB1 hcc hrow2 (jq hown1)
      rw[←hn]at this
      exact this
     case rest=>
      obtain⟨w1,rfl⟩:∃w1:World,w1=wc:=⟨_,rfl⟩
      obtain⟨g,off,c,q0,-,-,hlc,qf,hgr,hg1,hg2,hr1,gf,d0,d1,d2,d3,d4,d5⟩:=hcut.facts xE.out
      rw[←gW.out]at q0
      have E_:=gf (off+k*6+5)
      have HM:=Lib.hid hcut
      have MQ:=Lib.hid q0
      clear hcut qf gf hlc
      go_upto_region 9 with(fail)
      go_cut [] (fun wx=>bL w r (.slice aD (List.map (fun q:Int×bF=>q.2.b) T).length cD) (.slice aE (aU T).length cE) (T.set k (id,({x with closed:=true}:bF))) wx)
      case first=>
       go_wp2_with fail
       go_meet
       have h0:=MQ.out
       rw[gW.out]at h0
       have:=bL.gX HM.out (by rw[←gW.out]at h0⊢;exact h0) (k:=k) (j:=5) (q':=(id,{x with closed:=true})) (v:= .bool true) xE.out (by omega) rfl
       rw[←Nat.add_assoc]at this
       exact this
      case rest=>
       clear q0 d0 d1 d2 d3 d4 d5 E_ hgr hg1 hg2 hr1
       obtain⟨w2,rfl⟩:∃w2:World,w2=wc:=⟨_,rfl⟩
       have hset:(T.set k (id,({x with closed:=true}:bF)))[k]? =some (id,({x with closed:=true}:bF)):=by
        have hk1:k<T.length:=by have:=gW.out;omega
        rw[List.getElem?_set_self hk1]
       have Pm:=Lib.hid hset
       have M_:Hid (n=(T.set k (id,({x with closed:=true}:bF))).length):=by
        show n=_
        rw[List.length_set];exact gW.out
       clear hset
       obtain⟨g2,off2,Xu,q0,-,-,hlc,qf,hgr,hg1,hg2,hr1,gf,d0,d1,d2,d3,d4,d5⟩:=hcut.facts Pm.out
       rw[←M_.out]at q0
       have E_:=gf (off2+k*6+4)
       have F7:=Lib.hid hcut
       have SK:=Lib.hid q0
       clear hcut qf gf hlc
       go_upto_region 10 with(fail)
       go_cut [] (fun wx=>bA F w r (bf id (fun x:bF=>{x with closed:=true,aQ:=aQ}) T) (.tuple #[]) (.returned (.tuple #[])) wx)
       case first=>
        go_wp2_with fail
        go_meet
        have h0:=SK.out
        rw[M_.out]at h0
        have:=bL.gX F7.out (by rw[←M_.out]at h0⊢;exact h0) (k:=k) (j:=4) (q':=(id,{x with closed:=true,aQ:=aQ})) (v:= .int .u64 aQ) Pm.out (by omega) rfl
        rw[←Nat.add_assoc]at this
        rw[List.set_set]at this
        have h7:=fT.nu HH.out nM.out this (.tuple #[])
        have h8:=kN (f:=fun x:bF=>{x with closed:=true,aQ:=aQ}) HS.out xE.out
        simp only at h8
        rw[h8]at h7
        refine⟨h7.1,h7.2.1,?_⟩
        rw[kV (fun _=>by exact rfl),jP (fun _=>by exact rfl)]
        exact h7.2.2
       case rest=>
        clear q0 d0 d1 d2 d3 d4 d5 E_ hgr hg1 hg2 hr1
        obtain⟨w3,rfl⟩:∃w3:World,w3=wc:=⟨_,rfl⟩
        have HT3:=Lib.hid hcut
        have tL:=hcut.2.2
        have hr3:r<w3.heap.size:=tL.low r tL.own
        have hset:(bf id (fun x:bF=>{x with closed:=true,aQ:=aQ}) T)[k]? =some (id,({x with closed:=true,aQ:=aQ}:bF)):=by
         have h8:=kN (f:=fun x:bF=>{x with closed:=true,aQ:=aQ}) HS.out xE.out
         simp only at h8
         have hk1:k<T.length:=by have:=gW.out;omega
         rw[←h8,List.getElem?_set_self hk1]
        obtain⟨bG,oG,cG,e0,SL,Ze,SN,-,-,e2,-,-,-⟩:=tL.node hset
        simp only at e2
        rw[fU,←gW.out]at e0
        have Na:Hid (aj id (bf id (fun x:bF=>{x with closed:=true,aQ:=aQ}) T)=some ({x with closed:=true,aQ:=aQ}:bF)):=by
         show aj id (bf id (fun x:bF=>{x with closed:=true,aQ:=aQ}) T)=_
         rw[aS,if_pos rfl,HX.out]
         rfl
        have HSL:Hid (aP iC (bf id (fun x:bF=>{x with closed:=true,aQ:=aQ}) T)∧(bf id (fun x:bF=>{x with closed:=true,aQ:=aQ}) T).length≤64):=by
         refine⟨jk _ _ HS.out,?_⟩
         rw[fU,←gW.out]
         exact hlen
        have Lg:=Lib.hid (oJ id _ w3 tL HSL.out.1 HSL.out.2 Na.out (nN.out.file (nN.out.kind.resolve_right hkx)))
        clear hcut tL hset SL SN
        go_wp2_with fail
        (with_reducible refine Lg.out.mono ?_)
        rintro e w4 G9
        have qm:=Lib.hid G9
        obtain rfl:=G9.1
        clear G9
        go_wp2_with fail
        go_ret
        rw[HQ.out]
        exact(HT3.out.trans HH.out.low qm.out).val _
    ·rw[if_neg h9]at HQ
     have e9:(x.links==0)=false:=by simpa using h9
     clear h9
     go_enter Tryz.func24,Tryz.ntmps24
     go_wp2_with fail
     (with_reducible refine HF.out.mono ?_)
     rintro e w1 ⟨rfl,rfl⟩
     go_upto_region 8 with(fail)
     go_cut [] (fun wx=>bL w r (.slice aD (List.map (fun q:Int×bF=>q.2.b) T).length cD) (.slice aE (aU T).length cE) T wx)
     case first=>
      go_wp2_with ((at_builtin;refine eY rfl _ _ 99 rfl w.heap.size 98 _ _ 6 48 Tryz.underlying99 fD.out.1 fD.out.2.1 fD.out.2.2.1 fD.out.2.2.2 rfl (by omega) _ 0 [] rfl (dB (MapKept.heap_alloc w _).1 (Nat.le_refl _)) _ n _ (T.flatMap bV) rfl (Fa.out.below ((Below.refl _ _).alloc (Nat.le_refl _) _) (Nat.le_refl _)) (dI _) (by unfold maxLen;omega) (by omega) (by simp) ?_;intro A1 c1' w1 hown1 hb1;have hB1:=((Below.refl w.heap.size w).alloc (Nat.le_refl _) _).trans hb1;have hf1:w1.frozen? ⟨r,0,none⟩=false:=(hB1.frozen (p:=⟨r,0,none⟩) hrw).trans hf0;have Kn:=(hB1.cell (p:=⟨r,0,none⟩) hrw).trans p0))
      go_meet
      obtain⟨-,hcc,-,hrow2⟩:=kP (w:=w) hown1 (by unfold maxLen;omega) (Nat.le_refl _)
      have hn:=gW.out
      rw[List.nil_append,Nat.zero_add,hn]at hrow2
      rw[Nat.zero_add,hn]at hcc
      have:=bL.Mt hrw nM.out hB1 hcc hrow2 (jq hown1)
      rw[←hn]at this
      exact this
     case rest=>
      obtain⟨w1,rfl⟩:∃w1:World,w1=wc:=⟨_,rfl⟩
      obtain⟨g,off,c,q0,-,-,hlc,qf,hgr,hg1,hg2,hr1,gf,d0,d1,d2,d3,d4,d5⟩:=hcut.facts xE.out
      rw[←gW.out]at q0
      have E_:=gf (off+k*6+5)
      have HM:=Lib.hid hcut
      have MQ:=Lib.hid q0
      clear hcut qf gf hlc
      go_upto_region 9 with(fail)
      go_cut [] (fun wx=>bL w r (.slice aD (List.map (fun q:Int×bF=>q.2.b) T).length cD) (.slice aE (aU T).length cE) (T.set k (id,({x with closed:=true}:bF))) wx)
      case first=>
       go_wp2_with fail
       go_meet
       have h0:=MQ.out
       rw[gW.out]at h0
       have:=bL.gX HM.out (by rw[←gW.out]at h0⊢;exact h0) (k:=k) (j:=5) (q':=(id,{x with closed:=true})) (v:= .bool true) xE.out (by omega) rfl
       rw[←Nat.add_assoc]at this
       exact this
      case rest=>
       clear q0 d0 d1 d2 d3 d4 d5 E_ hgr hg1 hg2 hr1
       obtain⟨w2,rfl⟩:∃w2:World,w2=wc:=⟨_,rfl⟩
       have hset:(T.set k (id,({x with closed:=true}:bF)))[k]? =some (id,({x with closed:=true}:bF)):=by
        have hk1:k<T.length:=by have:=gW.out;omega
        rw[List.getElem?_set_self hk1]
       have Pm:=Lib.hid hset
       have M_:Hid (n=(T.set k (id,({x with closed:=true}:bF))).length):=by
        show n=_
        rw[List.length_set];exact gW.out
       clear hset
       obtain⟨g2,off2,Xu,q0,-,-,hlc,qf,hgr,hg1,hg2,hr1,gf,d0,d1,d2,d3,d4,d5⟩:=hcut.facts Pm.out
       rw[←M_.out]at q0
       have E_:=gf (off2+k*6+4)
       have F7:=Lib.hid hcut
       have SK:=Lib.hid q0
       clear hcut qf gf hlc
       go_upto_region 10 with(fail)
       go_cut [] (fun wx=>bA F w r (bf id (fun x:bF=>{x with closed:=true,aQ:=aQ}) T) (.tuple #[]) (.returned (.tuple #[])) wx)
       case first=>
        go_wp2_with fail
        go_meet
        have h0:=SK.out
        rw[M_.out]at h0
        have:=bL.gX F7.out (by rw[←M_.out]at h0⊢;exact h0) (k:=k) (j:=4) (q':=(id,{x with closed:=true,aQ:=aQ})) (v:= .int .u64 aQ) Pm.out (by omega) rfl
        rw[←Nat.add_assoc]at this
        rw[List.set_set]at this
        have h7:=fT.nu HH.out nM.out this (.tuple #[])
        have h8:=kN (f:=fun x:bF=>{x with closed:=true,aQ:=aQ}) HS.out xE.out
        simp only at h8
        rw[h8]at h7
        refine⟨h7.1,h7.2.1,?_⟩
        rw[kV (fun _=>by exact rfl),jP (fun _=>by exact rfl)]
        exact h7.2.2
       case rest=>
        clear q0 d0 d1 d2 d3 d4 d5 E_ hgr hg1 hg2 hr1
        obtain⟨w3,rfl⟩:∃w3:World,w3=wc:=⟨_,rfl⟩
        have HT3:=Lib.hid hcut
        have tL:=hcut.2.2
        have hr3:r<w3.heap.size:=tL.low r tL.own
        have hset:(bf id (fun x:bF=>{x with closed:=true,aQ:=aQ}) T)[k]? =some (id,({x with closed:=true,aQ:=aQ}:bF)):=by
         have h8:=kN (f:=fun x:bF=>{x with closed:=true,aQ:=aQ}) HS.out xE.out
         simp only at h8
         have hk1:k<T.length:=by have:=gW.out;omega
         rw[←h8,List.getElem?_set_self hk1]
        obtain⟨bG,oG,cG,e0,SL,Ze,SN,-,-,e2,-,-,-⟩:=tL.node hset
        simp only at e2
        rw[fU,←gW.out]at e0
        have Na:Hid (aj id (bf id (fun x:bF=>{x with closed:=true,aQ:=aQ}) T)=some ({x with closed:=true,aQ:=aQ}:bF)):=by
         show aj id (bf id (fun x:bF=>{x with closed:=true,aQ:=aQ}) T)=_
         rw[aS,if_pos rfl,HX.out]
         rfl
        have HSL:Hid (aP iC (bf id (fun x:bF=>{x with closed:=true,aQ:=aQ}) T)∧(bf id (fun x:bF=>{x with closed:=true,aQ:=aQ}) T).length≤64):=by
         refine⟨jk _ _ HS.out,?_⟩
         rw[fU,←gW.out]
         exact hlen
        have Lg:=Lib.hid (oJ id _ w3 tL HSL.out.1 HSL.out.2 Na.out (nN.out.file (nN.out.kind.resolve_right hkx)))
        clear hcut tL hset SL SN
        go_wp2_with fail
        go_ret
        rw[HQ.out]
        exact HT3.out.val _
 ·have HQ:=Lib.hid (sD (T:=T) (id:=id) (aQ:=aQ) (v:=bK T id) (by
   unfold nK bK at*
   cases hx:aj id T with
   |none=>rfl
   |some x=>
    rw[hx]at h0
    by_cases hk:x.kind=2
    ·simp[hk]
    ·exact absurd (by simp[hk]) h0) h0)
  generalize bK T id=f at*
  have hne:(f==0)=false:=by simpa using h0
  have hne2:(f !=0)=true:=by simpa using h0
  clear h hT h0
  go_enter Tryz.func24,Tryz.ntmps24
  go_wp2_with fail
  (with_reducible refine HF.out.mono ?_)
  rintro e w1 ⟨rfl,rfl⟩
  go_wp2_with fail
  go_ret
  exact bA.no HH.out (Below.refl _ _) HQ.out
end
theorem xG {T:aH} {id v:Int} (h:kF T id=v) (hv:v≠0):dH T id=(v,T):=by
 unfold dH
 rw[h,if_neg hv]
def jI (E:List iF) (id:Int) (m:Nat):List iF:=E.take m++(E.drop m).filter fun e=> !decide (e.2.2=id)
theorem Et {E:List iF} {id:Int} {m:Nat} {e:iF} (hx:E[m]? =some e):(jI E id (m+1))[m]? =some e:=by
 obtain⟨hm,h⟩:=List.getElem?_eq_some_iff.1 hx
 unfold jI
 rw[List.getElem?_append_left (by rw[List.length_take];omega),List.getElem?_take,if_pos (by omega)]
 exact hx
theorem Eu {E:List iF} {id:Int} {m:Nat} (hm:m≤E.length):m≤(jI E id m).length∧(jI E id m).length≤E.length:=by
 unfold jI
 have:=List.length_filter_le (fun e:iF=> !decide (e.2.2=id)) (E.drop m)
 rw[List.length_drop]at this
 rw[List.length_append,List.length_take]
 omega
theorem Ev {E:List iF} {id:Int} {m:Nat} {e:iF} (hx:E[m]? =some e) (he:e.2.2=id):(jI E id (m+1)).take m++(jI E id (m+1)).drop (m+1)=jI E id m:=by
 obtain⟨hm,h⟩:=List.getElem?_eq_some_iff.1 hx
 unfold jI
 have hl:(E.take (m+1)).length=m+1:=by rw[List.length_take];omega
 rw[List.take_append_of_le_length (by omega),List.take_take,Nat.min_eq_left (by omega),List.drop_append_of_le_length (by omega),List.drop_of_length_le (by omega),List.nil_append]
 congr 1
 rw[List.drop_eq_getElem_cons hm,h,List.filter_cons]
 simp[he]
theorem G_ {E:List iF} {id:Int} {m:Nat} {e:iF} (hx:E[m]? =some e) (he:e.2.2≠id):jI E id (m+1)=jI E id m:=by
 obtain⟨hm,h⟩:=List.getElem?_eq_some_iff.1 hx
 unfold jI
 rw[List.take_succ_eq_append_getElem hm,h,List.drop_eq_getElem_cons hm,h,List.filter_cons]
 simp[he]
section
variable {F:Nat→Prop} {r:Nat} {T:aH}
set_option maxRecDepth 100000 in
set_option maxHeartbeats 8000000 in
theorem Ew (id:Int) (w:World) (h:gU F w r T) (hT:dA T):
  Calls Tryz.prog 30 #[ptr r, .int .i64 id] w (bA F w r (dH T id).2 (.int .i64 (dH T id).1)):=by
 have HF:=Lib.hid (mM id w h hT.totF)
 have hr0:=h.low r h.own
 have HH:=Lib.hid h
 by_cases h0:bK T id=0
 ·obtain⟨x,hx,hk⟩:∃x,aj id T=some x∧x.kind≠2:=by
   unfold bK at h0
   cases hx:aj id T with
   |none=>rw[hx]at h0;cases h0
   |some x=>
    rw[hx]at h0
    exact⟨x,rfl,fun hk=>by simp[hk]at h0⟩
  obtain⟨k,hi,hq⟩:=iO hT.sorted hx
  have hrf:zB T id=k:=by unfold zB;rw[if_pos h0];exact hi
  rw[hrf,h0]at HF
  obtain⟨bN,oN,cN,hc0,hO,hbw,hkl,c0,c1,c2,c3,c4,c5⟩:=h.node hq
  simp only at c0 c1 c2 c3 c4 c5
  have i0:(0:Int)≤k:=by omega
  have hlen:=hT.len
  have xE:=Lib.hid hq
  have HS:=Lib.hid hT.sorted
  have hr1:=hr0
  have nN:=Lib.hid (hT.each id x hx)
  have HX:=Lib.hid hx
  have hkx:=hk
  have tJ:=gZ hT
  have Zf:=Lib.hid hT
  have HLN:=Lib.hid (rfl:T.length=T.length)
  obtain⟨aE,cE,p2,-,-,-⟩:=h.ent
  obtain⟨n,hn⟩:∃n,n=(aU T).length:=⟨_,rfl⟩
  rw[←hn]at p2 tJ
  have gW:=Lib.hid hn
  obtain⟨tl,htl⟩:∃tl,tl=T.length:=⟨_,rfl⟩
  rw[←htl]at hc0 hkl hlen
  have i1:(k:Int)<tl:=by omega
  have he:kF T id=if x.closed then 27 else 0:=by
   unfold kF
   rw[hx]
   simp only[if_neg hk]
  clear hx hk h hT h0 hn htl hi hq hrf hO
  cases hcl:x.closed with
  |true=>
   rw[hcl]at c5
   have HQ:=Lib.hid (xG (he.trans (if_pos hcl)) (by omega))
   clear hcl he
   go_enter Tryz.func30,Tryz.ntmps30
   go_wp2_with fail
   (with_reducible refine HF.out.mono ?_)
   rintro e w1 ⟨rfl,rfl⟩
   go_wp2_with fail
   go_ret
   exact bA.no HH.out (Below.refl _ _) HQ.out
  |false=>
   rw[hcl]at c5
   have HQ:Hid (dH T id=(0,bH id (eu T id))):=by
    show dH T id=_
    unfold dH
    rw[he,if_neg (by rw[hcl];decide)]
    rfl
   clear hcl he
   have e1:IntKind.i64.wrap ((n:Int)-1)=(n:Int)-1:=IntWalk.i64_in _ (by omega)
   go_enter Tryz.func30,Tryz.ntmps30
   go_wp2_with fail
   (with_reducible refine HF.out.mono ?_)
   rintro e w1 ⟨rfl,rfl⟩
   go_wp2_with fail
   go_loopw [7] (fun i wr=>∃m:Nat,m≤n∧i= .int .i64 ((m:Int)-1)∧dh F w r T (T.map fun q=>q.2.b) (jI (aU T) id m) (.tuple #[]) (.returned (.tuple #[])) wr) (fun i _=>(intOf i+1).toNat)
   case atStart=>
    refine⟨n,Nat.le_refl _,rfl,?_⟩
    have e2:jI (aU T) id n=aU T:=by
     unfold jI
     have:=gW.out
     rw[List.take_of_length_le (by omega),List.drop_of_length_le (by omega)]
     simp
    rw[e2]
    exact dh.same HH.out (Below.refl _ _)
   case round=>
    obtain⟨m,hm,rfl,hTr⟩:=hrel
    have Pn:=Lib.hid hTr
    clear hTr
    cases m with
    |zero=>
     have HR:Hid (bA F w r (eu T id) (.tuple #[]) (.returned (.tuple #[])) wr):=by
      refine⟨rfl,Pn.out.2.1,?_⟩
      have h1:=Pn.out.2.2.names (T':=eu T id) (by unfold eu;rw[List.length_map]) (zA id T)
      rw[show jI (aU T) id 0=(aU T).filter fun e=> !decide (e.2.2=id)by unfold jI;simp,←vE,←Bd id T]at h1
      exact h1
     have hP:=Zf.out.totF.strip id
     have Lg:=Lib.hid (oJ id (fC id x) wr HR.out.2.2 hP.sorted hP.len (by rw[jg,HX.out];rfl) (by
      unfold fC
      simp only
      rw[nN.out.file (nN.out.kind.resolve_right hkx)]
      rfl))
     clear hP
     rw[show((0:Nat):Int)-1= -1 by rfl]
     go_wp2_with fail
     (with_reducible refine Lg.out.mono ?_)
     rintro e w4 G9
     have qm:=Lib.hid G9
     obtain rfl:=G9.1
     clear G9
     go_wp2_with fail
     go_ret
     rw[HQ.out]
     exact(HR.out.trans HH.out.low qm.out).val _
    |succ j=>
     have hjn:j<(aU T).length:=by have:=gW.out;omega
     have hx:(aU T)[j]? =some ((aU T)[j]'hjn):=List.getElem?_eq_getElem _
     obtain⟨q,hqe⟩:∃q,q=(aU T)[j]'hjn:=⟨_,rfl⟩
     rw[←hqe]at hx
     have Fh:=Lib.hid hx
     have hR:=Pn.out.2.2
     have hrr:r<wr.heap.size:=hR.low r hR.own
     obtain⟨aR,cR,s2,-,hrow,-⟩:=hR.ent
     have hdl:=Eu (E:=aU T) (id:=id) (m:=j+1) (by omega)
     have xS:=Lib.hid (CQ j wr hR (by omega) (by have:=gW.out;omega))
     rw[show((j+1:Nat):Int)-1=(j:Int)by omega]
     obtain⟨b,off,rfl,hF,hb,hi,hc⟩:=hrow.wide gY rfl (Et hx) (by omega)
     have d2:wr.cell? ⟨b,off+j*3+2,none⟩=some (.int .i64 q.2.2):=hc 2 (by omega)
     obtain⟨dl,Po⟩:∃dl,dl=(jI (aU T) id (j+1)).length:=⟨_,rfl⟩
     rw[←Po]at s2 hdl hi
     have j0:(0:Int)≤j:=by omega
     have j1:(j:Int)<dl:=by omega
     have e2:IntKind.i64.wrap ((j:Int)-1)=(j:Int)-1:=IntWalk.i64_in _ (by omega)
     clear hx hqe hR hrow hc Po
     by_cases hp:q.2.2=id
     ·have hpp:(q.2.2==id)=true:=by simpa using hp
      have HP:=Lib.hid (Ev Fh.out hp)
      clear hp
      go_wp2_with fail
      (with_reducible refine xS.out.mono ?_)
      rintro e w4 G9
      have qm:=Lib.hid G9
      obtain rfl:=G9.1
      clear G9
      go_wp2_with fail
      go_roundw
      case rel=>exact⟨j,by omega,rfl,by rw[←HP.out];exact Pn.out.trans HH.out.low qm.out⟩
      case measure=>simp[intOf]
     ·have hpp:(q.2.2==id)=false:=by simpa using hp
      have HP:=Lib.hid (G_ Fh.out hp)
      clear hp
      go_wp2_with fail
      go_roundw
      case rel=>exact⟨j,by omega,rfl,by rw[←HP.out];exact Pn.out⟩
      case measure=>simp[intOf]
 ·have HQ:=Lib.hid (xG (T:=T) (id:=id) (v:=bK T id) (by
   unfold kF bK at*
   cases hx:aj id T with
   |none=>rfl
   |some x=>
    rw[hx]at h0
    by_cases hk:x.kind=2
    ·simp[hk]
    ·exact absurd (by simp[hk]) h0) h0)
  generalize bK T id=f at*
  have hne:(f==0)=false:=by simpa using h0
  have hne2:(f !=0)=true:=by simpa using h0
  clear h hT h0
  go_enter Tryz.func30,Tryz.ntmps30
  go_wp2_with fail
  (with_reducible refine HF.out.mono ?_)
  rintro e w1 ⟨rfl,rfl⟩
  go_wp2_with fail
  go_ret
  exact bA.no HH.out (Below.refl _ _) HQ.out
end
abbrev zL (r:Nat) (w:World) (id:Int) (n:Nat):Prop:=Calls Tryz.prog 146 #[ptr r, .int .i64 id] w fun e w'=>e= .returned (.int .i64 n)∧Below w.heap.size w w'
def qX (E:List iF) (id:Int) (d:Int→Nat) (M k m:Nat):Prop:=m≤M∧∀e∈E.take k,e.1=id→1+d e.2.2≤m
theorem qX.step {E:List iF} {id:Int} {d:Int→Nat} {M k m m':Nat} {e:iF} (h:qX E id d M k m) (hx:E[k]? =some e) (hm:m≤m') (hM:m'≤M) (he:e.1=id→1+d e.2.2≤m'):qX E id d M (k+1) m':=by
 obtain⟨hk,h2⟩:=List.getElem?_eq_some_iff.1 hx
 refine⟨hM,fun y hy hyi=> ?_⟩
 rw[List.take_succ_eq_append_getElem hk,h2]at hy
 rcases List.mem_append.1 hy with h3|h3
 ·exact Nat.le_trans (h.2 y h3 hyi) hm
 ·simp only[List.mem_singleton]at h3
  subst h3
  exact he hyi
section
variable {F:Nat→Prop} {r:Nat} {T:aH}
set_option maxRecDepth 100000 in
set_option maxHeartbeats 8000000 in
theorem vM (id:Int) (x:bF) (d:Int→Nat) (w:World) (h:gU F w r T) (hT:dA T) (hx:aj id T=some x) (hd:∀e∈x.names,d e.2≤64) (hd0:∀e∈x.names,bZ T e.2≠2→d e.2=0)
  (hc:∀e∈x.names,bZ T e.2=2→∀w1,Below w.heap.size w w1→zL r w1 e.2 (d e.2)):zL r w id (maxD d x.names):=by
 have hE:=gZ hT
 have hr0:=h.low r h.own
 have HH:=Lib.hid (fun w1 (hb:Below w.heap.size w w1)=>h.below hb (Nat.le_refl _))
 have HT:=Lib.hid hT
 have HX:=Lib.hid hx
 have HD:=Lib.hid hd
 have HD0:=Lib.hid hd0
 have HC:=Lib.hid hc
 obtain⟨n,hn⟩:∃n,n=(aU T).length:=⟨_,rfl⟩
 rw[←hn]at hE
 have HL:=Lib.hid hn
 have hmd:maxD d x.names≤65:=maxD_le d fun e he=>by have:=hd e he;omega
 obtain⟨M,hM⟩:∃M,M=maxD d x.names:=⟨_,rfl⟩
 rw[←hM]at hmd⊢
 have HM:=Lib.hid hM
 clear h hT hx hd hd0 hc hn hM
 unfold zL
 go_enter Tryz.func146,Tryz.ntmps146
 go_wp2_with fail
 go_loopw [5,6] (fun v i wr=>∃k m:Nat,k≤n∧i= .int .i64 k∧v= .int .i64 m∧qX (aU T) id d M k m∧Below w.heap.size w wr) (fun _ i _=>n-(intOf i).toNat)
 case atStart=>exact⟨0,0,by omega,rfl,rfl,⟨Nat.zero_le _,by simp⟩,Below.refl _ _⟩
 case round=>
  obtain⟨k,m,hk,rfl,rfl,hrel,hB⟩:=hrel
  have HR:=Lib.hid hrel
  have HB:=Lib.hid hB
  have SQ:=hrel.1
  have hs:=hB.size
  obtain⟨aE,cE,s2,-,hrow,-⟩:=(HH.out wr hB).ent
  rw[←HL.out]at s2 hrow
  have hrr:r<wr.heap.size:=by omega
  clear hrel hB
  by_cases hlt:k<n
  ·have hkn:k<(aU T).length:=by have:=HL.out;omega
   have hx:(aU T)[k]? =some ((aU T)[k]'hkn):=List.getElem?_eq_getElem _
   obtain⟨q,hqe⟩:∃q,q=(aU T)[k]'hkn:=⟨_,rfl⟩
   rw[←hqe]at hx
   have HQ:=Lib.hid hx
   obtain⟨b,off,rfl,hF,hb,hi,hcc⟩:=hrow.wide gY HL.out.symm hx (by omega)
   have c0:wr.cell? ⟨b,off+k*3,none⟩=some (.int .i64 q.1):=hcc 0 (by omega)
   have c2:wr.cell? ⟨b,off+k*3+2,none⟩=some (.int .i64 q.2.2):=hcc 2 (by omega)
   have i0:(0:Int)≤k:=by omega
   have i1:(k:Int)<n:=by omega
   clear hx hqe hrow hcc
   by_cases hp:q.1=id
   ·have hpp:(q.1==id)=true:=by simpa using hp
    have hmem:q.2∈x.names:=by
     obtain⟨z,hz,hm⟩:=(iZ HT.out.sorted).1 (List.mem_of_getElem? HQ.out)
     rw[hp,HX.out]at hz
     cases hz
     exact hm
    obtain⟨y,hy⟩:=Option.isSome_iff_exists.1 (HT.out.leads id x HX.out _ hmem).1
    have zX:=Lib.hid (jO q.2.2 wr (HH.out wr HB.out) HT.out.totF)
    have hnd:jy T q.2.2=iM q.2.2 y:=by unfold jy;rw[hy]
    rw[hnd]at zX
    unfold iM at zX
    have hge:1+d q.2.2≤M:=by rw[HM.out];exact qJ d hmem
    by_cases hk2:y.kind=2
    ·rw[hk2]at zX
     have Ou:=Lib.hid (HC.out _ hmem ((b_ hy).trans hk2))
     obtain⟨dd,hdd⟩:∃dd,dd=d q.2.2:=⟨_,rfl⟩
     rw[←hdd]at Ou hge
     have Pp:=Lib.hid hdd
     have e1:IntKind.i64.wrap (1+(dd:Int))=1+(dd:Int):=IntWalk.i64_in _ (by omega)
     clear hp hnd hy hk2 hmem hdd
     by_cases hgt:m<1+dd
     ·have hg2:decide ((m:Int)<1+(dd:Int))=true:=by simp;omega
      go_wp2_with fail
      (with_reducible refine zX.out.mono ?_)
      rintro e w3 ⟨rfl,hb3⟩
      have HB3:=Lib.hid (HB.out.trans (hb3.mono hs))
      have hs3:=hb3.size
      have s2':w3.cell? ⟨r,2,none⟩=some (.slice (some ⟨b,off,none⟩) n cE):=(hb3.cell (p:=⟨r,2,none⟩) hrr).trans s2
      have c2':w3.cell? ⟨b,off+k*3+2,none⟩=some (.int .i64 q.2.2):=(hb3.cell (p:=⟨b,off+k*3+2,none⟩) hb).trans c2
      have hr3:r<w3.heap.size:=by omega
      have LU:b<w3.heap.size:=by omega
      clear hb3 s2 c2 c0
      go_wp2_with fail
      (with_reducible refine Calls.mono (Ou.out _ (HB3.out.trans ((wall w3 _).mono HB3.out.size))) ?_)
      rintro e w4 ⟨rfl,hb4⟩
      have eG:=Lib.hid ((HB3.out.trans ((wall w3 _).mono HB3.out.size)).trans (hb4.mono (by simp;omega)))
      clear hb4
      go_wp2_with fail
      go_roundw
      case rel=>exact⟨k+1,1+dd,by omega,by go_num,by go_num,HR.out.step HQ.out (by omega) (by omega) (fun _=>by rw[Pp.out];exact Nat.le_refl _),eG.out⟩
      case measure=>simp[intOf];omega
     ·have hg2:decide ((m:Int)<1+(dd:Int))=false:=by simp;omega
      go_wp2_with fail
      (with_reducible refine zX.out.mono ?_)
      rintro e w3 ⟨rfl,hb3⟩
      have HB3:=Lib.hid (HB.out.trans (hb3.mono hs))
      have hs3:=hb3.size
      have s2':w3.cell? ⟨r,2,none⟩=some (.slice (some ⟨b,off,none⟩) n cE):=(hb3.cell (p:=⟨r,2,none⟩) hrr).trans s2
      have c2':w3.cell? ⟨b,off+k*3+2,none⟩=some (.int .i64 q.2.2):=(hb3.cell (p:=⟨b,off+k*3+2,none⟩) hb).trans c2
      have hr3:r<w3.heap.size:=by omega
      have LU:b<w3.heap.size:=by omega
      clear hb3 s2 c2 c0
      go_wp2_with fail
      (with_reducible refine Calls.mono (Ou.out _ (HB3.out.trans ((wall w3 _).mono HB3.out.size))) ?_)
      rintro e w4 ⟨rfl,hb4⟩
      have eG:=Lib.hid ((HB3.out.trans ((wall w3 _).mono HB3.out.size)).trans (hb4.mono (by simp;omega)))
      clear hb4
      go_wp2_with fail
      go_roundw
      case rel=>exact⟨k+1,m,by omega,by go_num,rfl,HR.out.step HQ.out (Nat.le_refl _) SQ (fun _=>by rw[←Pp.out];omega),eG.out⟩
      case measure=>simp[intOf];omega
    ·have e2:(y.kind==2)=false:=by simpa using hk2
     have hd1:d q.2.2=0:=HD0.out _ hmem (by rw[b_ hy];exact hk2)
     rw[hd1]at hge
     have Pp:=Lib.hid hd1
     clear hp hnd hy hk2 hmem hd1
     by_cases hgt:m<1
     ·have hg2:decide ((m:Int)<1)=true:=by simp;omega
      go_wp2_with fail
      (with_reducible refine zX.out.mono ?_)
      rintro e w3 ⟨rfl,hb3⟩
      have HB3:=Lib.hid (HB.out.trans (hb3.mono hs))
      clear hb3
      go_wp2_with fail
      go_roundw
      case rel=>exact⟨k+1,1,by omega,by go_num,rfl,HR.out.step HQ.out (by omega) (by omega) (fun _=>by rw[Pp.out];exact Nat.le_refl _),HB3.out.trans ((wall w3 _).mono HB3.out.size)⟩
      case measure=>simp[intOf];omega
     ·have hg2:decide ((m:Int)<1)=false:=by simp;omega
      go_wp2_with fail
      (with_reducible refine zX.out.mono ?_)
      rintro e w3 ⟨rfl,hb3⟩
      have HB3:=Lib.hid (HB.out.trans (hb3.mono hs))
      clear hb3
      go_wp2_with fail
      go_roundw
      case rel=>exact⟨k+1,m,by omega,by go_num,rfl,HR.out.step HQ.out (Nat.le_refl _) SQ (fun _=>by rw[Pp.out];omega),HB3.out.trans ((wall w3 _).mono HB3.out.size)⟩
      case measure=>simp[intOf];omega
   ·have hpp:(q.1==id)=false:=by simpa using hp
    have HP:=Lib.hid hp
    clear hp
    go_wp2
    go_roundw
    case rel=>exact⟨k+1,m,by omega,by go_num,rfl,HR.out.step HQ.out (Nat.le_refl _) SQ (fun h=>absurd h HP.out),HB.out⟩
    case measure=>simp[intOf];omega
  ·go_wp2
   go_ret
   refine⟨fM ?_,HB.out⟩
   have:M≤m:=by
    rw[HM.out]
    refine maxD_le d fun e he=>HR.out.2 (id,e.1,e.2) ?_ rfl
    rw[List.take_of_length_le (by have:=HL.out;omega)]
    exact(iZ HT.out.sorted).2 ⟨x,HX.out,he⟩
   omega
theorem vN {T:aH} (hT:dA T) {id:Int} (hk:bZ T id≠2):∀n,gy T n id=0
 |0=>rfl
 |n+1=>by
  show maxD (gy T n) (bB T id)=0
  unfold bB bZ at*
  cases hx:aj id T with
  |none=>rfl
  |some x=>
   rw[hx]at hk
   simp only at hk⊢
   rw[(hT.each id x hx).file ((hT.each id x hx).kind.resolve_right hk)]
   rfl
theorem xH (hT:dA T):∀(n:Nat) (id:Int) (w:World),gU F w r T→(aj id T).isSome=true→uW T n id→n≤64→zL r w id (gy T n id)
 |0,id,w,h,hi,hs,hn=>by
  obtain⟨x,hx⟩:=Option.isSome_iff_exists.1 hi
  have e:x.names=[]:=by have h1:bB T id=[]:=hs;unfold bB at h1;rw[hx]at h1;exact h1
  have:=vM id x (fun _=>0) w h hT hx (fun _ _=>Nat.zero_le _) (fun _ _ _=>rfl) (fun y he=>by rw[e]at he;cases he)
  rw[e]at this
  exact this
 |n+1,id,w,h,hi,hs,hn=>by
  obtain⟨x,hx⟩:=Option.isSome_iff_exists.1 hi
  have e:bB T id=x.names:=by unfold bB;rw[hx]
  have hs':∀e∈x.names,uW T n e.2:=fun y hy=>hs y (by rw[e];exact hy)
  have:=vM id x (gy T n) w h hT hx (fun y hy=>Nat.le_trans (hs' y hy).le (by omega)) (fun y hy hk=>vN hT hk n) (fun y hy _ w1 hb=>
   xH hT n y.2 w1 (h.below hb (Nat.le_refl _)) (hT.leads id x hx y hy).1 (hs' y hy) (by omega))
  rw[←e]at this
  exact this
end
theorem oK {w:World} (n:Nat):Below w.heap.size w (w.drewN n):=⟨rfl,rfl,rfl,Nat.le_refl _,fun _ _=>rfl⟩
theorem zM {P:Program} {f:FuncId} {args:Array Value} {w:World} {v:Value} (h:Calls P f args w fun e w'=>e= .returned v∧w=w'):Calls P f args w fun e w'=>e= .returned v∧w'=w:=h.mono fun e w' ⟨h1,h2⟩=>⟨h1,h2.symm⟩
section
variable {F:Nat→Prop} {r:Nat} {T:aH}
set_option maxHeartbeats 2000000 in
theorem xI (d:Int) (nm:Nm) (id j:Int) (x:bF) (w:World) (h:gU F w r T) (hT:dA T) (hx:aj d T=some x) (hn:aj nm x.names=some j):
  Calls Tryz.prog 145 #[ptr r, .int .i64 d, .string (strOf nm), .int .i64 id] w fun e w'=>e= .returned (.int .i64 (if j=id then 0 else 21))∧Below w.heap.size w w':=by
 have hE:(aU T).length≤1000000:=by have:=gZ hT;omega
 have H5:=Lib.hid (fun m=>iP d nm (w.drewN m) (h.below (oK m) (Nat.le_refl _)) hE)
 obtain⟨k,hk,he⟩:=mK hT.totF hx hn
 rw[hk]at H5
 have hr0:=h.low r h.own
 obtain⟨aE,cE,s2,-,hrow,-⟩:=h.ent
 obtain⟨b,off,rfl,hF,hb,hi,hcc⟩:=hrow.wide gY rfl he (by omega)
 have c2:w.cell? ⟨b,off+k*3+2,none⟩=some (.int .i64 j):=hcc 2 (by omega)
 have i0:(0:Int)≤k:=by omega
 have i1:(k:Int)<(aU T).length:=by omega
 generalize (aU T).length=n at*
 clear h hT hx hn hk he hrow hcc hE
 by_cases hj:j=id
 ·have e1:(j==id)=true:=by simpa using hj
  rw[if_pos hj]
  clear hj
  go_enter Tryz.func145,Tryz.ntmps145
  go_wp2_with fail
  go_quiet ((go_at_call 63;exact Calls.quiet_of_same (zM (H5.out _))))
  go_wp2_with fail
  go_ret
  exact⟨rfl,oK _⟩
 ·have e1:(j==id)=false:=by simpa using hj
  rw[if_neg hj]
  clear hj
  go_enter Tryz.func145,Tryz.ntmps145
  go_wp2_with fail
  go_quiet ((go_at_call 63;exact Calls.quiet_of_same (zM (H5.out _))))
  go_wp2_with fail
  go_ret
  exact⟨rfl,oK _⟩
end
end Go.Proofs.YtohpcppeajijnaaGreat
