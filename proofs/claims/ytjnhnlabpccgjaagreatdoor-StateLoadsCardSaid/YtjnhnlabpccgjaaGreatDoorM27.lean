/- The -/
import Derived.Test.YtjnhnlabpccgjaaGreatDoorM26
import Derived.Deep.QuietTactic
import Derived.BigQuiet
set_option maxRecDepth 100000
set_option maxHeartbeats 64000000
set_option linter.all false
namespace Go.Proofs.YtjnhnlabpccgjaaGreatDoor
open Go.ChangeShapes Go.WideShapes Go.ChangeAt Go.RowKit
theorem wK{T:aA}{id aF v:Int}(h:wS T id aF=v)(hv:v≠0):jA T id aF=(v,T):=by
 unfold jA;rw[h,if_neg hv]
theorem Av{T:aA}{id aF v:Int}(h:uD T id aF=v)(hv:v≠0):dY T id aF=(v,T):=by
 unfold dY;rw[h,if_neg hv]
section
variable{F:Nat→Prop}{r:Nat}{T:aA}
theorem QZ(id aF:Int)(w:World)(h:jC F w r T)(hT:dZ T)(ht0:0≤aF∧aF≤18446744073709551615):
  Calls Tryz.prog 120 #[ptr r,.int .i64 id,.int .u64 aF] w (bS F w r (jA T id aF).2 (.int .i64 (jA T id aF).1)):=by
 have HF:=acr (sF id w h hT.towP);have hr0:=h.low r h.own;have HH:=acr h;by_cases h0:dG T id=0
 ·obtain⟨x,hx,hk⟩:∃x,aj id T=some x∧x.kind≠2:=by
   unfold dG at h0;cases hx:aj id T with
   |none=>rw[hx]at h0;cases h0
   |some x=>
    rw[hx]at h0;exact⟨x,rfl,fun hk=>by simp[hk]at h0⟩
  obtain⟨k,hi,hq⟩:=lC hT.sorted hx;have hrf:JZ T id=k:=by unfold JZ;rw[if_pos h0];exact hi
  rw[hrf,h0]at HF;obtain⟨bN,oN,cN,hc0,hO,hbw,hkl,c0,c1,c2,c3,c4,c5⟩:=h.node hq;simp only at c0 c1 c2 c3 c4 c5;have i0:(0:Int)≤k:=by omega
  have hlen:=hT.len;have Gm:=acr hq;have HS:=acr hT.sorted;obtain⟨i6,a6,b6,s6,d6⟩:=aam nodeInfo;have kQ:=acr (And.intro a6 (And.intro b6 (And.intro s6 d6)));obtain⟨aN,cN',aD,cD,aE,cE,h1,h2,h3,h4,h8,h9,h10,h11⟩:=h.head;obtain⟨p0,p1,p2,pf⟩:=iU h1;rw[p0]at hc0;simp only[Pd,aak,abR]at hc0;obtain⟨rfl,rfl⟩:=hc0;have Ab:=acr h1;have Cw:=acr h8;obtain⟨n,hn⟩:∃n,n=T.length:=⟨_,rfl⟩;rw[←hn]at p0 hlen hkl h2 Cw;have jY:=acr hn;have hf0:=pf 0;have hfp:=hO.2;have i1:(k:Int)<n:=by omega
  have hrw:=hr0;have wI:=acr (hT.each id x hx);have HX:=acr hx;have hkx:=hk;clear a6 b6 s6 d6 h1 h8 h9 h10 h11 hi hrf h hq hn p1 p2 pf hO hT h0;have he:wS T id aF=if x.closed=false then 25 else if aF<x.aF then 28 else if 1099511627776<aF then 1 else 0:=by
   unfold wS;rw[hx];simp only[if_neg hk]
  clear hx hk hkx;cases hcl:x.closed with
  |false=>
   rw[hcl]at c5;have HQ:=acr (wK (he.trans (if_pos hcl)) (by omega));clear hcl he;go_enter Tryz.func120,Tryz.ntmps120;go_wp2_with fail;refine HF.o.mono ?_;rintro e w1 ⟨rfl,rfl⟩;go_wp2_with fail;go_ret;exact bS.no HH.o acv HQ.o
  |true=>
   rw[hcl]at c5;rw[if_neg (by rw[hcl];decide)]at he;by_cases h5:aF<x.aF
   ·have HQ:=acr (wK (he.trans (if_pos h5)) (by omega));have hd5:decide (aF<x.aF)=true:=by simpa using h5
    clear hcl he;go_enter Tryz.func120,Tryz.ntmps120;go_wp2_with fail;refine HF.o.mono ?_;rintro e w1 ⟨rfl,rfl⟩;go_wp2_with fail;go_ret;exact bS.no HH.o acv HQ.o
   ·rw[if_neg h5]at he;have hd5:decide (aF<x.aF)=false:=by simpa using h5
    by_cases h6:1099511627776<aF
    ·have HQ:=acr (wK (he.trans (if_pos h6)) (by omega));have hd6:decide ((1099511627776:Int)<aF)=true:=by simpa using h6
     clear hcl he;go_enter Tryz.func120,Tryz.ntmps120;go_wp2_with fail;refine HF.o.mono ?_;rintro e w1 ⟨rfl,rfl⟩;go_wp2_with fail;go_ret;exact bS.no HH.o acv HQ.o
    ·have hd6:decide ((1099511627776:Int)<aF)=false:=by simpa using h6
     have HQ:acs (jA T id aF=(0,bC id (fun x=>{x with aF:=aF}) T)):=by
      show jA T id aF=_;unfold jA;rw[he,if_neg h6];rfl
     clear hcl he;go_enter Tryz.func120,Tryz.ntmps120;go_wp2_with fail;refine HF.o.mono ?_;rintro e w1 ⟨rfl,rfl⟩;go_upto_region 10 with(fail)
     go_cut [] (fun wx=>bW w r (.slice aD (List.map (fun q:Int×bJ=>q.2.b) T).length cD) (.slice aE (aW T).length cE) T wx)
     case first=>
      go_wp2_with ((at_builtin;refine gL rfl _ _ 110 rfl w.heap.size 39 _ _ 6 48 Tryz.underlying110 kQ.o.1 kQ.o.2.1 kQ.o.2.2.1 kQ.o.2.2.2 rfl (by omega) _ 0 [] rfl (fT (MapKept.heap_alloc w _).1 acu) _ n _ (T.flatMap dM) rfl (Cw.o.below (acv.alloc acu _) acu) (g_ _) (by unfold maxLen;omega) (by omega) (by simp) ?_;intro A1 c1' w1 hown1 hb1;have hB1:=((Below.refl w.heap.size w).alloc acu _).trans hb1;have hf1:w1.frozen? ⟨r,0,none⟩=false:=(hB1.frozen (p:=⟨r,0,none⟩) hrw).trans hf0;have X3:=(hB1.cell (p:=⟨r,0,none⟩) hrw).trans p0))
      go_meet
      obtain⟨-,hcc,-,hrow2⟩:=pF (w:=w) hown1 (by unfold maxLen;omega) acu;have hn:=jY.o;rw[List.nil_append,Nat.zero_add,hn]at hrow2;rw[Nat.zero_add,hn]at hcc;have:=bW.mk_ hrw Ab.o hB1 hcc hrow2 (mo hown1);rw[←hn]at this;exact this
     case rest=>
      obtain⟨w1,rfl⟩:∃w1:World,w1=wc:=⟨_,rfl⟩;obtain⟨g,off,c,q0,-,-,hlc,qf,hgr,hg1,hg2,hr1,gf,d0,d1,d2,d3,d4,d5⟩:=hcut.facts Gm.o;rw[←jY.o]at q0;have TH:=gf (off+k*6+4);have HM:=acr hcut;have Gh:=acr q0;clear hcut qf gf hlc;go_wp2_with fail;go_ret;rw[HQ.o];have h0:=Gh.o;rw[jY.o]at h0;have:=bW.gI HM.o (by rw[←jY.o]at h0⊢;exact h0) (k:=k) (j:=4) (q':=(id,{x with aF:=aF})) (v:= .int .u64 aF) Gm.o (by omega) rfl;rw[←Nat.add_assoc]at this;have h7:=gX.tQ HH.o Ab.o this (.int .i64 0);have h8:=pE (f:=fun x:bJ=>{x with aF:=aF}) HS.o Gm.o;simp only at h8;rw[h8]at h7;refine⟨h7.1,h7.2.1,?_⟩;rw[pU (fun _=>by exact rfl),nO (fun _=>by exact rfl)];exact h7.2.2
 ·have HQ:=acr (wK (T:=T) (id:=id) (aF:=aF) (v:=dG T id) (by
   unfold wS dG at*;cases hx:aj id T with
   |none=>rfl
   |some x=>
    rw[hx]at h0;by_cases hk:x.kind=2
    ·simp[hk]
    ·exact absurd (by simp[hk]) h0) h0)
  generalize dG T id=f at*;have hne:(f==0)=false:=by simpa using h0
  have hne2:(f !=0)=true:=by simpa using h0
  clear h hT h0;go_enter Tryz.func120,Tryz.ntmps120;go_wp2_with fail;refine HF.o.mono ?_;rintro e w1 ⟨rfl,rfl⟩;go_wp2_with fail;go_ret;exact bS.no HH.o acv HQ.o
end
section
variable{F:Nat→Prop}{r:Nat}{T:aA}
theorem Q0(id aF:Int)(w:World)(h:jC F w r T)(hT:dZ T)(ht0:0≤aF∧aF≤18446744073709551615):
  Calls Tryz.prog 108 #[ptr r,.int .i64 id,.int .u64 aF] w (bS F w r (dY T id aF).2 (.int .i64 (dY T id aF).1)):=by
 have HF:=acr (sF id w h hT.towP);have hr0:=h.low r h.own;have HH:=acr h;by_cases h0:dG T id=0
 ·obtain⟨x,hx,hk⟩:∃x,aj id T=some x∧x.kind≠2:=by
   unfold dG at h0;cases hx:aj id T with
   |none=>rw[hx]at h0;cases h0
   |some x=>
    rw[hx]at h0;exact⟨x,rfl,fun hk=>by simp[hk]at h0⟩
  obtain⟨k,hi,hq⟩:=lC hT.sorted hx;have hrf:JZ T id=k:=by unfold JZ;rw[if_pos h0];exact hi
  rw[hrf,h0]at HF;obtain⟨bN,oN,cN,hc0,hO,hbw,hkl,c0,c1,c2,c3,c4,c5⟩:=h.node hq;simp only at c0 c1 c2 c3 c4 c5;have i0:(0:Int)≤k:=by omega
  have hlen:=hT.len;have Gm:=acr hq;have HS:=acr hT.sorted;obtain⟨i6,a6,b6,s6,d6⟩:=aam nodeInfo;have kQ:=acr (And.intro a6 (And.intro b6 (And.intro s6 d6)));obtain⟨aN,cN',aD,cD,aE,cE,h1,h2,h3,h4,h8,h9,h10,h11⟩:=h.head;obtain⟨p0,p1,p2,pf⟩:=iU h1;rw[p0]at hc0;simp only[Pd,aak,abR]at hc0;obtain⟨rfl,rfl⟩:=hc0;have Ab:=acr h1;have Cw:=acr h8;obtain⟨n,hn⟩:∃n,n=T.length:=⟨_,rfl⟩;rw[←hn]at p0 hlen hkl h2 Cw;have jY:=acr hn;have hf0:=pf 0;have hfp:=hO.2;have i1:(k:Int)<n:=by omega
  have hrw:=hr0;have wI:=acr (hT.each id x hx);have HX:=acr hx;have hkx:=hk;clear a6 b6 s6 d6 h1 h8 h9 h10 h11 hi hrf h hq hn p1 p2 pf hO hT h0;have he:uD T id aF=if x.closed then 27 else if 1099511627776<aF then 1 else 0:=by
   unfold uD;rw[hx];simp only[if_neg hk]
  clear hx hk;cases hcl:x.closed with
  |true=>
   rw[hcl]at c5;have HQ:=acr (Av (he.trans (if_pos hcl)) (by omega));clear hcl he;go_enter Tryz.func108,Tryz.ntmps108;go_wp2_with fail;refine HF.o.mono ?_;rintro e w1 ⟨rfl,rfl⟩;go_wp2_with fail;go_ret;exact bS.no HH.o acv HQ.o
  |false=>
   rw[hcl]at c5;rw[if_neg (by rw[hcl];decide)]at he;by_cases h6:1099511627776<aF
   ·have HQ:=acr (Av (he.trans (if_pos h6)) (by omega));have hd6:decide ((1099511627776:Int)<aF)=true:=by simpa using h6
    clear hcl he;go_enter Tryz.func108,Tryz.ntmps108;go_wp2_with fail;refine HF.o.mono ?_;rintro e w1 ⟨rfl,rfl⟩;go_wp2_with fail;go_ret;exact bS.no HH.o acv HQ.o
   ·have hd6:decide ((1099511627776:Int)<aF)=false:=by simpa using h6
    have HQ:acs (dY T id aF=(0,if x.links=0 then bP id (bC id (fun x:bJ=>{x with closed:=true,aF:=aF}) T)else(bC id (fun x:bJ=>{x with closed:=true,aF:=aF}) T))):=by
     show dY T id aF=_;unfold dY gY;rw[he,if_neg h6];refine aaE rfl ?_;show(match aj id (bC id (fun x:bJ=>{x with closed:=true,aF:=aF}) T)with|none=>(bC id (fun x:bJ=>{x with closed:=true,aF:=aF}) T)|some x=>if x.links=0∧x.closed=true then bP id (bC id (fun x:bJ=>{x with closed:=true,aF:=aF}) T)else(bC id (fun x:bJ=>{x with closed:=true,aF:=aF}) T))=_;rw[bf,if_pos rfl,HX.o];simp only[aao,aaI]
    clear hcl he;by_cases h9:x.links=0
    ·rw[if_pos h9]at HQ;have e9:(x.links==0)=true:=by simpa using h9
     clear h9;go_enter Tryz.func108,Tryz.ntmps108;go_wp2_with fail;refine HF.o.mono ?_;rintro e w1 ⟨rfl,rfl⟩;go_upto_region 8 with(fail)
     go_cut [] (fun wx=>bW w r (.slice aD (List.map (fun q:Int×bJ=>q.2.b) T).length cD) (.slice aE (aW T).length cE) T wx)
     case first=>
      go_wp2_with ((at_builtin;refine gL rfl _ _ 110 rfl w.heap.size 39 _ _ 6 48 Tryz.underlying110 kQ.o.1 kQ.o.2.1 kQ.o.2.2.1 kQ.o.2.2.2 rfl (by omega) _ 0 [] rfl (fT (MapKept.heap_alloc w _).1 acu) _ n _ (T.flatMap dM) rfl (Cw.o.below (acv.alloc acu _) acu) (g_ _) (by unfold maxLen;omega) (by omega) (by simp) ?_;intro A1 c1' w1 hown1 hb1;have hB1:=((Below.refl w.heap.size w).alloc acu _).trans hb1;have hf1:w1.frozen? ⟨r,0,none⟩=false:=(hB1.frozen (p:=⟨r,0,none⟩) hrw).trans hf0;have X3:=(hB1.cell (p:=⟨r,0,none⟩) hrw).trans p0))
      go_meet
      obtain⟨-,hcc,-,hrow2⟩:=pF (w:=w) hown1 (by unfold maxLen;omega) acu;have hn:=jY.o;rw[List.nil_append,Nat.zero_add,hn]at hrow2;rw[Nat.zero_add,hn]at hcc;have:=bW.mk_ hrw Ab.o hB1 hcc hrow2 (mo hown1);rw[←hn]at this;exact this
     case rest=>
      obtain⟨w1,rfl⟩:∃w1:World,w1=wc:=⟨_,rfl⟩;obtain⟨g,off,c,q0,-,-,hlc,qf,hgr,hg1,hg2,hr1,gf,d0,d1,d2,d3,d4,d5⟩:=hcut.facts Gm.o;rw[←jY.o]at q0;have TH:=gf (off+k*6+5);have HM:=acr hcut;have Gh:=acr q0;clear hcut qf gf hlc;go_upto_region 9 with(fail)
      go_cut [] (fun wx=>bW w r (.slice aD (List.map (fun q:Int×bJ=>q.2.b) T).length cD) (.slice aE (aW T).length cE) (T.set k (id,({x with closed:=true}:bJ))) wx)
      case first=>
       go_wp2_with fail
       go_meet
       have h0:=Gh.o;rw[jY.o]at h0;have:=bW.gI HM.o (by rw[←jY.o]at h0⊢;exact h0) (k:=k) (j:=5) (q':=(id,{x with closed:=true})) (v:= .bool true) Gm.o (by omega) rfl;rw[←Nat.add_assoc]at this;exact this
      case rest=>
       clear q0 d0 d1 d2 d3 d4 d5 TH hgr hg1 hg2 hr1;obtain⟨w2,rfl⟩:∃w2:World,w2=wc:=⟨_,rfl⟩;have hset:(T.set k (id,({x with closed:=true}:bJ)))[k]? =some (id,({x with closed:=true}:bJ)):=by
        have hk1:k<T.length:=by have:=jY.o;omega
        rw[aaY hk1]
       have ZR:=acr hset;have J6:acs (n=(T.set k (id,({x with closed:=true}:bJ))).length):=by
        show n=_;rw[aaV];exact jY.o
       clear hset;obtain⟨g2,off2,c2z,q0,-,-,hlc,qf,hgr,hg1,hg2,hr1,gf,d0,d1,d2,d3,d4,d5⟩:=hcut.facts ZR.o;rw[←J6.o]at q0;have TH:=gf (off2+k*6+4);have zO:=acr hcut;have xL:=acr q0;clear hcut qf gf hlc;go_upto_region 10 with(fail)
       go_cut [] (fun wx=>bS F w r (bC id (fun x:bJ=>{x with closed:=true,aF:=aF}) T) (.tuple #[]) (.returned (.tuple #[])) wx)
       case first=>
        go_wp2_with fail
        go_meet
        have h0:=xL.o;rw[J6.o]at h0;have:=bW.gI zO.o (by rw[←J6.o]at h0⊢;exact h0) (k:=k) (j:=4) (q':=(id,{x with closed:=true,aF:=aF})) (v:= .int .u64 aF) ZR.o (by omega) rfl;rw[←Nat.add_assoc]at this;rw[List.set_set]at this;have h7:=gX.tQ HH.o Ab.o this (.tuple #[]);have h8:=pE (f:=fun x:bJ=>{x with closed:=true,aF:=aF}) HS.o Gm.o;simp only at h8;rw[h8]at h7;refine⟨h7.1,h7.2.1,?_⟩;rw[pU (fun _=>by exact rfl),nO (fun _=>by exact rfl)];exact h7.2.2
       case rest=>
        clear q0 d0 d1 d2 d3 d4 d5 TH hgr hg1 hg2 hr1;obtain⟨w3,rfl⟩:∃w3:World,w3=wc:=⟨_,rfl⟩;have HT3:=acr hcut;have tV:=hcut.2.2;have hr3:r<w3.heap.size:=tV.low r tV.own;have hset:(bC id (fun x:bJ=>{x with closed:=true,aF:=aF}) T)[k]? =some (id,({x with closed:=true,aF:=aF}:bJ)):=by
         have h8:=pE (f:=fun x:bJ=>{x with closed:=true,aF:=aF}) HS.o Gm.o;simp only at h8;have hk1:k<T.length:=by have:=jY.o;omega
         rw[←h8,aaY hk1]
        obtain⟨bG,oG,cG,e0,hOG,hbG,hkG,-,-,e2,-,-,-⟩:=tV.node hset;simp only at e2;rw[iK,←jY.o]at e0;have MV:acs (aj id (bC id (fun x:bJ=>{x with closed:=true,aF:=aF}) T)=some ({x with closed:=true,aF:=aF}:bJ)):=by
         show aj id (bC id (fun x:bJ=>{x with closed:=true,aF:=aF}) T)=_;rw[bf,if_pos rfl,HX.o];rfl
        have HSL:acs (aI iA (bC id (fun x:bJ=>{x with closed:=true,aF:=aF}) T)∧(bC id (fun x:bJ=>{x with closed:=true,aF:=aF}) T).length≤64):=by
         refine⟨lV _ _ HS.o,?_⟩;rw[iK,←jY.o];exact hlen
        have F4:=acr (vK id _ w3 tV HSL.o.1 HSL.o.2 MV.o (wI.o.file (wI.o.kind.resolve_right hkx)));clear hcut tV hset hOG hkG;go_wp2_with fail;refine F4.o.mono ?_;rintro e w4 J7;have IJ:=acr J7;obtain rfl:=J7.1;clear J7;go_wp2_with fail;go_ret;rw[HQ.o];exact(HT3.o.trans HH.o.low IJ.o).val _
    ·rw[if_neg h9]at HQ;have e9:(x.links==0)=false:=by simpa using h9
     clear h9;go_enter Tryz.func108,Tryz.ntmps108;go_wp2_with fail;refine HF.o.mono ?_;rintro e w1 ⟨rfl,rfl⟩;go_upto_region 8 with(fail)
     go_cut [] (fun wx=>bW w r (.slice aD (List.map (fun q:Int×bJ=>q.2.b) T).length cD) (.slice aE (aW T).length cE) T wx)
     case first=>
      go_wp2_with ((at_builtin;refine gL rfl _ _ 110 rfl w.heap.size 39 _ _ 6 48 Tryz.underlying110 kQ.o.1 kQ.o.2.1 kQ.o.2.2.1 kQ.o.2.2.2 rfl (by omega) _ 0 [] rfl (fT (MapKept.heap_alloc w _).1 acu) _ n _ (T.flatMap dM) rfl (Cw.o.below (acv.alloc acu _) acu) (g_ _) (by unfold maxLen;omega) (by omega) (by simp) ?_;intro A1 c1' w1 hown1 hb1;have hB1:=((Below.refl w.heap.size w).alloc acu _).trans hb1;have hf1:w1.frozen? ⟨r,0,none⟩=false:=(hB1.frozen (p:=⟨r,0,none⟩) hrw).trans hf0;have X3:=(hB1.cell (p:=⟨r,0,none⟩) hrw).trans p0))
      go_meet
      obtain⟨-,hcc,-,hrow2⟩:=pF (w:=w) hown1 (by unfold maxLen;omega) acu;have hn:=jY.o;rw[List.nil_append,Nat.zero_add,hn]at hrow2;rw[Nat.zero_add,hn]at hcc;have:=bW.mk_ hrw Ab.o hB1 hcc hrow2 (mo hown1);rw[←hn]at this;exact this
     case rest=>
      obtain⟨w1,rfl⟩:∃w1:World,w1=wc:=⟨_,rfl⟩;obtain⟨g,off,c,q0,-,-,hlc,qf,hgr,hg1,hg2,hr1,gf,d0,d1,d2,d3,d4,d5⟩:=hcut.facts Gm.o;rw[←jY.o]at q0;have TH:=gf (off+k*6+5);have HM:=acr hcut;have Gh:=acr q0;clear hcut qf gf hlc;go_upto_region 9 with(fail)
      go_cut [] (fun wx=>bW w r (.slice aD (List.map (fun q:Int×bJ=>q.2.b) T).length cD) (.slice aE (aW T).length cE) (T.set k (id,({x with closed:=true}:bJ))) wx)
      case first=>
       go_wp2_with fail
       go_meet
       have h0:=Gh.o;rw[jY.o]at h0;have:=bW.gI HM.o (by rw[←jY.o]at h0⊢;exact h0) (k:=k) (j:=5) (q':=(id,{x with closed:=true})) (v:= .bool true) Gm.o (by omega) rfl;rw[←Nat.add_assoc]at this;exact this
      case rest=>
       clear q0 d0 d1 d2 d3 d4 d5 TH hgr hg1 hg2 hr1;obtain⟨w2,rfl⟩:∃w2:World,w2=wc:=⟨_,rfl⟩;have hset:(T.set k (id,({x with closed:=true}:bJ)))[k]? =some (id,({x with closed:=true}:bJ)):=by
        have hk1:k<T.length:=by have:=jY.o;omega
        rw[aaY hk1]
       have ZR:=acr hset;have J6:acs (n=(T.set k (id,({x with closed:=true}:bJ))).length):=by
        show n=_;rw[aaV];exact jY.o
       clear hset;obtain⟨g2,off2,c2z,q0,-,-,hlc,qf,hgr,hg1,hg2,hr1,gf,d0,d1,d2,d3,d4,d5⟩:=hcut.facts ZR.o;rw[←J6.o]at q0;have TH:=gf (off2+k*6+4);have zO:=acr hcut;have xL:=acr q0;clear hcut qf gf hlc;go_upto_region 10 with(fail)
       go_cut [] (fun wx=>bS F w r (bC id (fun x:bJ=>{x with closed:=true,aF:=aF}) T) (.tuple #[]) (.returned (.tuple #[])) wx)
       case first=>
        go_wp2_with fail
        go_meet
        have h0:=xL.o;rw[J6.o]at h0;have:=bW.gI zO.o (by rw[←J6.o]at h0⊢;exact h0) (k:=k) (j:=4) (q':=(id,{x with closed:=true,aF:=aF})) (v:= .int .u64 aF) ZR.o (by omega) rfl;rw[←Nat.add_assoc]at this;rw[List.set_set]at this;have h7:=gX.tQ HH.o Ab.o this (.tuple #[]);have h8:=pE (f:=fun x:bJ=>{x with closed:=true,aF:=aF}) HS.o Gm.o;simp only at h8;rw[h8]at h7;refine⟨h7.1,h7.2.1,?_⟩;rw[pU (fun _=>by exact rfl),nO (fun _=>by exact rfl)];exact h7.2.2
       case rest=>
        clear q0 d0 d1 d2 d3 d4 d5 TH hgr hg1 hg2 hr1;obtain⟨w3,rfl⟩:∃w3:World,w3=wc:=⟨_,rfl⟩;have HT3:=acr hcut;have tV:=hcut.2.2;have hr3:r<w3.heap.size:=tV.low r tV.own;have hset:(bC id (fun x:bJ=>{x with closed:=true,aF:=aF}) T)[k]? =some (id,({x with closed:=true,aF:=aF}:bJ)):=by
         have h8:=pE (f:=fun x:bJ=>{x with closed:=true,aF:=aF}) HS.o Gm.o;simp only at h8;have hk1:k<T.length:=by have:=jY.o;omega
         rw[←h8,aaY hk1]
        obtain⟨bG,oG,cG,e0,hOG,hbG,hkG,-,-,e2,-,-,-⟩:=tV.node hset;simp only at e2;rw[iK,←jY.o]at e0;have MV:acs (aj id (bC id (fun x:bJ=>{x with closed:=true,aF:=aF}) T)=some ({x with closed:=true,aF:=aF}:bJ)):=by
         show aj id (bC id (fun x:bJ=>{x with closed:=true,aF:=aF}) T)=_;rw[bf,if_pos rfl,HX.o];rfl
        have HSL:acs (aI iA (bC id (fun x:bJ=>{x with closed:=true,aF:=aF}) T)∧(bC id (fun x:bJ=>{x with closed:=true,aF:=aF}) T).length≤64):=by
         refine⟨lV _ _ HS.o,?_⟩;rw[iK,←jY.o];exact hlen
        have F4:=acr (vK id _ w3 tV HSL.o.1 HSL.o.2 MV.o (wI.o.file (wI.o.kind.resolve_right hkx)));clear hcut tV hset hOG hkG;go_wp2_with fail;go_ret;rw[HQ.o];exact HT3.o.val _
 ·have HQ:=acr (Av (T:=T) (id:=id) (aF:=aF) (v:=dG T id) (by
   unfold uD dG at*;cases hx:aj id T with
   |none=>rfl
   |some x=>
    rw[hx]at h0;by_cases hk:x.kind=2
    ·simp[hk]
    ·exact absurd (by simp[hk]) h0) h0)
  generalize dG T id=f at*;have hne:(f==0)=false:=by simpa using h0
  have hne2:(f !=0)=true:=by simpa using h0
  clear h hT h0;go_enter Tryz.func108,Tryz.ntmps108;go_wp2_with fail;refine HF.o.mono ?_;rintro e w1 ⟨rfl,rfl⟩;go_wp2_with fail;go_ret;exact bS.no HH.o acv HQ.o
end
theorem Gn{T:aA}{id v:Int}(h:jf T id=v)(hv:v≠0):dO T id=(v,T):=by
 unfold dO;rw[h,if_neg hv]
def nD(E:List jT)(id:Int)(m:Nat):List jT:=E.take m++(E.drop m).filter fun e=> !decide (e.2.2=id)
theorem Q5{E:List jT}{id:Int}{m:Nat}{e:jT}(hx:E[m]? =some e):(nD E id (m+1))[m]? =some e:=by
 obtain⟨hm,h⟩:=aac.1 hx;unfold nD;rw[aaN (by rw[List.length_take];omega),aaD,if_pos (by omega)];exact hx
theorem Q6{E:List jT}{id:Int}{m:Nat}(hm:m≤E.length):m≤(nD E id m).length∧(nD E id m).length≤E.length:=by
 unfold nD;have:=aa4 (fun e:jT=> !decide (e.2.2=id)) (E.drop m);rw[List.length_drop]at this;rw[List.length_append,List.length_take];omega
theorem Q7{E:List jT}{id:Int}{m:Nat}{e:jT}(hx:E[m]? =some e)(he:e.2.2=id):(nD E id (m+1)).take m++(nD E id (m+1)).drop (m+1)=nD E id m:=by
 obtain⟨hm,h⟩:=aac.1 hx;unfold nD;have hl:(E.take (m+1)).length=m+1:=by rw[List.length_take];omega
 rw[List.take_append_of_le_length (by omega),List.take_take,Nat.min_eq_left (by omega),List.drop_append_of_le_length (by omega),aaC (by omega),List.nil_append];congr 1;rw[aaO hm,h,List.filter_cons];simp[he]
theorem UL{E:List jT}{id:Int}{m:Nat}{e:jT}(hx:E[m]? =some e)(he:e.2.2≠id):nD E id (m+1)=nD E id m:=by
 obtain⟨hm,h⟩:=aac.1 hx;unfold nD;rw[aae hm,h,aaO hm,h,List.filter_cons];simp[he]
section
variable{F:Nat→Prop}{r:Nat}{T:aA}
theorem Q8(id:Int)(w:World)(h:jC F w r T)(hT:dZ T):
  Calls Tryz.prog 177 #[ptr r,.int .i64 id] w (bS F w r (dO T id).2 (.int .i64 (dO T id).1)):=by
 have HF:=acr (sF id w h hT.towP);have hr0:=h.low r h.own;have HH:=acr h;by_cases h0:dG T id=0
 ·obtain⟨x,hx,hk⟩:∃x,aj id T=some x∧x.kind≠2:=by
   unfold dG at h0;cases hx:aj id T with
   |none=>rw[hx]at h0;cases h0
   |some x=>
    rw[hx]at h0;exact⟨x,rfl,fun hk=>by simp[hk]at h0⟩
  obtain⟨k,hi,hq⟩:=lC hT.sorted hx;have hrf:JZ T id=k:=by unfold JZ;rw[if_pos h0];exact hi
  rw[hrf,h0]at HF;obtain⟨bN,oN,cN,hc0,hO,hbw,hkl,c0,c1,c2,c3,c4,c5⟩:=h.node hq;simp only at c0 c1 c2 c3 c4 c5;have i0:(0:Int)≤k:=by omega
  have hlen:=hT.len;have Gm:=acr hq;have HS:=acr hT.sorted;have hr1:=hr0;have wI:=acr (hT.each id x hx);have HX:=acr hx;have hkx:=hk;have Jv:=iT hT;have HTT:=acr hT;have OL:=acr (rfl:T.length=T.length);obtain⟨aE,cE,p2,-,-,-⟩:=h.ent;obtain⟨n,hn⟩:∃n,n=(aW T).length:=⟨_,rfl⟩;rw[←hn]at p2 Jv;have jY:=acr hn;obtain⟨tl,htl⟩:∃tl,tl=T.length:=⟨_,rfl⟩;rw[←htl]at hc0 hkl hlen;have i1:(k:Int)<tl:=by omega
  have he:jf T id=if x.closed then 27 else 0:=by
   unfold jf;rw[hx];simp only[if_neg hk]
  clear hx hk h hT h0 hn htl hi hq hrf hO;cases hcl:x.closed with
  |true=>
   rw[hcl]at c5;have HQ:=acr (Gn (he.trans (if_pos hcl)) (by omega));clear hcl he;go_enter Tryz.func177,Tryz.ntmps177;go_wp2_with fail;refine HF.o.mono ?_;rintro e w1 ⟨rfl,rfl⟩;go_wp2_with fail;go_ret;exact bS.no HH.o acv HQ.o
  |false=>
   rw[hcl]at c5;have HQ:acs (dO T id=(0,bP id (fO T id))):=by
    show dO T id=_;unfold dO;rw[he,if_neg (by rw[hcl];decide)];rfl
   clear hcl he;have e1:IntKind.i64.wrap ((n:Int)-1)=(n:Int)-1:=aag _ (by omega);go_enter Tryz.func177,Tryz.ntmps177;go_wp2_with fail;refine HF.o.mono ?_;rintro e w1 ⟨rfl,rfl⟩;go_wp2_with fail
   go_loopw [7] (fun i wr=>∃m:Nat,m≤n∧i= .int .i64 ((m:Int)-1)∧dS F w r T (T.map fun q=>q.2.b) (nD (aW T) id m) (.tuple #[]) (.returned (.tuple #[])) wr) (fun i _=>(intOf i+1).toNat)
   case atStart=>
    refine⟨n,Nat.le_refl _,rfl,?_⟩;have e2:nD (aW T) id n=aW T:=by
     unfold nD;have:=jY.o;rw[List.take_of_length_le (by omega),aaC (by omega)];simp
    rw[e2];exact dS.same HH.o acv
   case round=>
    obtain⟨m,hm,rfl,hTr⟩:=hrel;have HTr:=acr hTr;clear hTr;cases m with
    |zero=>
     have HR:acs (bS F w r (fO T id) (.tuple #[]) (.returned (.tuple #[])) wr):=by
      refine⟨rfl,HTr.o.2.1,?_⟩;have h1:=HTr.o.2.2.names (T':=fO T id) (by unfold fO;rw[List.length_map]) (JY id T);rw[show nD (aW T) id 0=(aW T).filter fun e=> !decide (e.2.2=id)by unfold nD;simp,←DR,←MO id T]at h1;exact h1
     have hP:=HTT.o.towP.strip id;have F4:=acr (vK id (gT id x) wr HR.o.2.2 hP.sorted hP.len (by rw[jr,HX.o];rfl) (by
      unfold gT;simp only;rw[wI.o.file (wI.o.kind.resolve_right hkx)];rfl))
     clear hP;rw[show((0:Nat):Int)-1= -1 by rfl];go_wp2_with fail;refine F4.o.mono ?_;rintro e w4 J7;have IJ:=acr J7;obtain rfl:=J7.1;clear J7;go_wp2_with fail;go_ret;rw[HQ.o];exact(HR.o.trans HH.o.low IJ.o).val _
    |succ j=>
     have hjn:j<(aW T).length:=by have:=jY.o;omega
     have hx:(aW T)[j]? =some ((aW T)[j]'hjn):=List.getElem?_eq_getElem _;obtain⟨q,hqe⟩:∃q,q=(aW T)[j]'hjn:=⟨_,rfl⟩;rw[←hqe]at hx;have ZT:=acr hx;have hR:=HTr.o.2.2;have hrr:r<wr.heap.size:=hR.low r hR.own;obtain⟨aR,cR,s2,-,hrow,-⟩:=hR.ent;have hdl:=Q6 (E:=aW T) (id:=id) (m:=j+1) (by omega);have TG:=acr (OJ j wr hR (by omega) (by have:=jY.o;omega));rw[show((j+1:Nat):Int)-1=(j:Int)by omega];obtain⟨b,off,rfl,hF,hb,hi,hc⟩:=hrow.wide jI rfl (Q5 hx) (by omega);have d2:wr.cell? ⟨b,off+j*3+2,none⟩=some (.int .i64 q.2.2):=hc 2 (by omega);obtain⟨dl,hdle⟩:∃dl,dl=(nD (aW T) id (j+1)).length:=⟨_,rfl⟩;rw[←hdle]at s2 hdl hi;have j0:(0:Int)≤j:=by omega
     have j1:(j:Int)<dl:=by omega
     have e2:IntKind.i64.wrap ((j:Int)-1)=(j:Int)-1:=aag _ (by omega);clear hx hqe hR hrow hc hdle;by_cases hp:q.2.2=id
     ·have hpp:(q.2.2==id)=true:=by simpa using hp
      have HP:=acr (Q7 ZT.o hp);clear hp;go_wp2_with fail;refine TG.o.mono ?_;rintro e w4 J7;have IJ:=acr J7;obtain rfl:=J7.1;clear J7;go_wp2_with fail;go_roundw
      case rel=>exact⟨j,by omega,rfl,by rw[←HP.o];exact HTr.o.trans HH.o.low IJ.o⟩
      case measure=>simp[intOf]
     ·have hpp:(q.2.2==id)=false:=by simpa using hp
      have HP:=acr (UL ZT.o hp);clear hp;go_wp2_with fail;go_roundw
      case rel=>exact⟨j,by omega,rfl,by rw[←HP.o];exact HTr.o⟩
      case measure=>simp[intOf]
 ·have HQ:=acr (Gn (T:=T) (id:=id) (v:=dG T id) (by
   unfold jf dG at*;cases hx:aj id T with
   |none=>rfl
   |some x=>
    rw[hx]at h0;by_cases hk:x.kind=2
    ·simp[hk]
    ·exact absurd (by simp[hk]) h0) h0)
  generalize dG T id=f at*;have hne:(f==0)=false:=by simpa using h0
  have hne2:(f !=0)=true:=by simpa using h0
  clear h hT h0;go_enter Tryz.func177,Tryz.ntmps177;go_wp2_with fail;refine HF.o.mono ?_;rintro e w1 ⟨rfl,rfl⟩;go_wp2_with fail;go_ret;exact bS.no HH.o acv HQ.o
end
abbrev J8(r:Nat)(w:World)(id:Int)(n:Nat):Prop:=Calls Tryz.prog 119 #[ptr r,.int .i64 id] w fun e w'=>e= .returned (.int .i64 n)∧Below w.heap.size w w'
def zx(E:List jT)(id:Int)(d:Int→Nat)(M k m:Nat):Prop:=m≤M∧∀e∈E.take k,e.1=id→1+d e.2.2≤m
theorem zx.step{E:List jT}{id:Int}{d:Int→Nat}{M k m m':Nat}{e:jT}(h:zx E id d M k m)(hx:E[k]? =some e)(hm:m≤m')(hM:m'≤M)(he:e.1=id→1+d e.2.2≤m'):zx E id d M (k+1) m':=by
 obtain⟨hk,h2⟩:=aac.1 hx;refine⟨hM,fun y hy hyi=> ?_⟩;rw[aae hk,h2]at hy;rcases aap.1 hy with h3|h3
 ·exact aax (h.2 y h3 hyi) hm
 ·simp only[List.mem_singleton]at h3;subst h3;exact he hyi
section
variable{F:Nat→Prop}{r:Nat}{T:aA}
theorem D5(id:Int)(x:bJ)(d:Int→Nat)(w:World)(h:jC F w r T)(hT:dZ T)(hx:aj id T=some x)(hd:∀e∈x.names,d e.2≤64)(hd0:∀e∈x.names,bI T e.2≠2→d e.2=0)
  (hc:∀e∈x.names,bI T e.2=2→∀w1,Below w.heap.size w w1→J8 r w1 e.2 (d e.2)):J8 r w id (maxD d x.names):=by
 have hE:=iT hT;have hr0:=h.low r h.own;have HH:=acr (fun w1 (hb:Below w.heap.size w w1)=>h.below hb acu);have HT:=acr hT;have HX:=acr hx;have HD:=acr hd;have HD0:=acr hd0;have HC:=acr hc;obtain⟨n,hn⟩:∃n,n=(aW T).length:=⟨_,rfl⟩;rw[←hn]at hE;have HL:=acr hn;have hmd:maxD d x.names≤65:=maxD_le d fun e he=>by have:=hd e he;omega
 obtain⟨M,hM⟩:∃M,M=maxD d x.names:=⟨_,rfl⟩;rw[←hM]at hmd⊢;have HM:=acr hM;clear h hT hx hd hd0 hc hn hM;unfold J8;go_enter Tryz.func119,Tryz.ntmps119;go_wp2_with fail
 go_loopw [5,6] (fun v i wr=>∃k m:Nat,k≤n∧i= .int .i64 k∧v= .int .i64 m∧zx (aW T) id d M k m∧Below w.heap.size w wr) (fun _ i _=>n-(intOf i).toNat)
 case atStart=>exact⟨0,0,by omega,rfl,rfl,⟨Nat.zero_le _,by simp⟩,Below.refl _ _⟩
 case round=>
  obtain⟨k,m,hk,rfl,rfl,hrel,hB⟩:=hrel;have HR:=acr hrel;have HB:=acr hB;have hmM:=hrel.1;have hs:=hB.size;obtain⟨aE,cE,s2,-,hrow,-⟩:=(HH.o wr hB).ent;rw[←HL.o]at s2 hrow;have hrr:r<wr.heap.size:=by omega
  clear hrel hB;by_cases hlt:k<n
  ·have hkn:k<(aW T).length:=by have:=HL.o;omega
   have hx:(aW T)[k]? =some ((aW T)[k]'hkn):=List.getElem?_eq_getElem _;obtain⟨q,hqe⟩:∃q,q=(aW T)[k]'hkn:=⟨_,rfl⟩;rw[←hqe]at hx;have HQ:=acr hx;obtain⟨b,off,rfl,hF,hb,hi,hcc⟩:=hrow.wide jI HL.o.symm hx (by omega);have c0:wr.cell? ⟨b,off+k*3,none⟩=some (.int .i64 q.1):=hcc 0 (by omega);have c2:wr.cell? ⟨b,off+k*3+2,none⟩=some (.int .i64 q.2.2):=hcc 2 (by omega);have i0:(0:Int)≤k:=by omega
   have i1:(k:Int)<n:=by omega
   clear hx hqe hrow hcc;by_cases hp:q.1=id
   ·have hpp:(q.1==id)=true:=by simpa using hp
    have hmem:q.2∈x.names:=by
     obtain⟨z,hz,hm⟩:=(lD HT.o.sorted).1 (aat HQ.o);rw[hp,HX.o]at hz;cases hz;exact hm
    obtain⟨y,hy⟩:=aaf.1 (HT.o.leads id x HX.o _ hmem).1;have wu:=acr (mg q.2.2 wr (HH.o wr HB.o) HT.o.towP);have hnd:jN T q.2.2=kE q.2.2 y:=by unfold jN;rw[hy]
    rw[hnd]at wu;unfold kE at wu;have hge:1+d q.2.2≤M:=by rw[HM.o];exact Co d hmem
    by_cases hk2:y.kind=2
    ·rw[hk2]at wu;have HCH:=acr (HC.o _ hmem ((dh hy).trans hk2));obtain⟨dd,hdd⟩:∃dd,dd=d q.2.2:=⟨_,rfl⟩;rw[←hdd]at HCH hge;have HDD:=acr hdd;have e1:IntKind.i64.wrap (1+(dd:Int))=1+(dd:Int):=aag _ (by omega);clear hp hnd hy hk2 hmem hdd;by_cases hgt:m<1+dd
     ·have hg2:decide ((m:Int)<1+(dd:Int))=true:=by simp;omega
      go_wp2_with fail;refine wu.o.mono ?_;rintro e w3 ⟨rfl,hb3⟩;have HB3:=acr (HB.o.trans (hb3.mono hs));have hs3:=hb3.size;have s2':w3.cell? ⟨r,2,none⟩=some (.slice (some ⟨b,off,none⟩) n cE):=(hb3.cell (p:=⟨r,2,none⟩) hrr).trans s2;have c2':w3.cell? ⟨b,off+k*3+2,none⟩=some (.int .i64 q.2.2):=(hb3.cell (p:=⟨b,off+k*3+2,none⟩) hb).trans c2;have hr3:r<w3.heap.size:=by omega
      have Q9:b<w3.heap.size:=by omega
      clear hb3 s2 c2 c0;go_wp2_with fail;(with_reducible refine Calls.mono (HCH.o _ (HB3.o.trans ((wall w3 _).mono HB3.o.size))) ?_);rintro e w4 ⟨rfl,hb4⟩;have eT:=acr ((HB3.o.trans ((wall w3 _).mono HB3.o.size)).trans (hb4.mono (by simp;omega)));clear hb4;go_wp2_with fail;go_roundw
      case rel=>exact⟨k+1,1+dd,by omega,by go_num,by go_num,HR.o.step HQ.o (by omega) (by omega) (fun _=>by rw[HDD.o];exact Nat.le_refl _),eT.o⟩
      case measure=>simp[intOf];omega
     ·have hg2:decide ((m:Int)<1+(dd:Int))=false:=by simp;omega
      go_wp2_with fail;refine wu.o.mono ?_;rintro e w3 ⟨rfl,hb3⟩;have HB3:=acr (HB.o.trans (hb3.mono hs));have hs3:=hb3.size;have s2':w3.cell? ⟨r,2,none⟩=some (.slice (some ⟨b,off,none⟩) n cE):=(hb3.cell (p:=⟨r,2,none⟩) hrr).trans s2;have c2':w3.cell? ⟨b,off+k*3+2,none⟩=some (.int .i64 q.2.2):=(hb3.cell (p:=⟨b,off+k*3+2,none⟩) hb).trans c2;have hr3:r<w3.heap.size:=by omega
      have Q9:b<w3.heap.size:=by omega
      clear hb3 s2 c2 c0;go_wp2_with fail;(with_reducible refine Calls.mono (HCH.o _ (HB3.o.trans ((wall w3 _).mono HB3.o.size))) ?_);rintro e w4 ⟨rfl,hb4⟩;have eT:=acr ((HB3.o.trans ((wall w3 _).mono HB3.o.size)).trans (hb4.mono (by simp;omega)));clear hb4;go_wp2_with fail;go_roundw
      case rel=>exact⟨k+1,m,by omega,by go_num,rfl,HR.o.step HQ.o acu hmM (fun _=>by rw[←HDD.o];omega),eT.o⟩
      case measure=>simp[intOf];omega
    ·have e2:(y.kind==2)=false:=by simpa using hk2
     have hd1:d q.2.2=0:=HD0.o _ hmem (by rw[dh hy];exact hk2);rw[hd1]at hge;have HDD:=acr hd1;clear hp hnd hy hk2 hmem hd1;by_cases hgt:m<1
     ·have hg2:decide ((m:Int)<1)=true:=by simp;omega
      go_wp2_with fail;refine wu.o.mono ?_;rintro e w3 ⟨rfl,hb3⟩;have HB3:=acr (HB.o.trans (hb3.mono hs));clear hb3;go_wp2_with fail;go_roundw
      case rel=>exact⟨k+1,1,by omega,by go_num,rfl,HR.o.step HQ.o (by omega) (by omega) (fun _=>by rw[HDD.o];exact Nat.le_refl _),HB3.o.trans ((wall w3 _).mono HB3.o.size)⟩
      case measure=>simp[intOf];omega
     ·have hg2:decide ((m:Int)<1)=false:=by simp;omega
      go_wp2_with fail;refine wu.o.mono ?_;rintro e w3 ⟨rfl,hb3⟩;have HB3:=acr (HB.o.trans (hb3.mono hs));clear hb3;go_wp2_with fail;go_roundw
      case rel=>exact⟨k+1,m,by omega,by go_num,rfl,HR.o.step HQ.o acu hmM (fun _=>by rw[HDD.o];omega),HB3.o.trans ((wall w3 _).mono HB3.o.size)⟩
      case measure=>simp[intOf];omega
   ·have hpp:(q.1==id)=false:=by simpa using hp
    have HP:=acr hp;clear hp;go_wp2;go_roundw
    case rel=>exact⟨k+1,m,by omega,by go_num,rfl,HR.o.step HQ.o acu hmM (fun h=>absurd h HP.o),HB.o⟩
    case measure=>simp[intOf];omega
  ·go_wp2;go_ret;refine⟨fI ?_,HB.o⟩;have:M≤m:=by
    rw[HM.o];refine maxD_le d fun e he=>HR.o.2 (id,e.1,e.2) ?_ rfl;rw[List.take_of_length_le (by have:=HL.o;omega)];exact(lD HT.o.sorted).2 ⟨x,HX.o,he⟩
   omega
theorem D6{T:aA}(hT:dZ T){id:Int}(hk:bI T id≠2):∀n,kr T n id=0
 |0=>rfl
 |n+1=>by
  show maxD (kr T n) (aU T id)=0;unfold aU bI at*;cases hx:aj id T with
  |none=>rfl
  |some x=>
   rw[hx]at hk;simp only at hk⊢;rw[(hT.each id x hx).file ((hT.each id x hx).kind.resolve_right hk)];rfl
theorem Gp(hT:dZ T):∀(n:Nat) (id:Int) (w:World),jC F w r T→(aj id T).isSome=true→Dm T n id→n≤64→J8 r w id (kr T n id)
 |0,id,w,h,hi,hs,hn=>by
  obtain⟨x,hx⟩:=aaf.1 hi;have e:x.names=[]:=by have h1:aU T id=[]:=hs;unfold aU at h1;rw[hx]at h1;exact h1
  have:=D5 id x (fun _=>0) w h hT hx (fun _ _=>Nat.zero_le _) (fun _ _ _=>rfl) (fun y he=>by rw[e]at he;cases he);rw[e]at this;exact this
 |n+1,id,w,h,hi,hs,hn=>by
  obtain⟨x,hx⟩:=aaf.1 hi;have e:aU T id=x.names:=by unfold aU;rw[hx]
  have hs':∀e∈x.names,Dm T n e.2:=fun y hy=>hs y (by rw[e];exact hy);have:=D5 id x (kr T n) w h hT hx (fun y hy=>aax (hs' y hy).le (by omega)) (fun y hy hk=>D6 hT hk n) (fun y hy _ w1 hb=>
   Gp hT n y.2 w1 (h.below hb acu) (hT.leads id x hx y hy).1 (hs' y hy) (by omega))
  rw[←e]at this;exact this
end
theorem vL{w:World}(n:Nat):Below w.heap.size w (w.drewN n):=⟨rfl,rfl,rfl,Nat.le_refl _,fun _ _=>rfl⟩
theorem J9{P:Program}{f:FuncId}{args:Array Value}{w:World}{v:Value}(h:Calls P f args w fun e w'=>e= .returned v∧w=w'):Calls P f args w fun e w'=>e= .returned v∧w'=w:=h.mono fun e w' ⟨h1,h2⟩=>⟨h1,h2.symm⟩
section
variable{F:Nat→Prop}{r:Nat}{T:aA}
theorem Gq(d:Int)(nm:Nm)(id j:Int)(x:bJ)(w:World)(h:jC F w r T)(hT:dZ T)(hx:aj d T=some x)(hn:aj nm x.names=some j):
  Calls Tryz.prog 118 #[ptr r,.int .i64 d,.string (strOf nm),.int .i64 id] w fun e w'=>e= .returned (.int .i64 (if j=id then 0 else 21))∧Below w.heap.size w w':=by
 have hE:(aW T).length≤1000000:=by have:=iT hT;omega
 have H5:=acr (fun m=>kH d nm (w.drewN m) (h.below (vL m) acu) hE);obtain⟨k,hk,he⟩:=sD hT.towP hx hn;rw[hk]at H5;have hr0:=h.low r h.own;obtain⟨aE,cE,s2,-,hrow,-⟩:=h.ent;obtain⟨b,off,rfl,hF,hb,hi,hcc⟩:=hrow.wide jI rfl he (by omega);have c2:w.cell? ⟨b,off+k*3+2,none⟩=some (.int .i64 j):=hcc 2 (by omega);have i0:(0:Int)≤k:=by omega
 have i1:(k:Int)<(aW T).length:=by omega
 generalize (aW T).length=n at*;clear h hT hx hn hk he hrow hcc hE;by_cases hj:j=id
 ·have e1:(j==id)=true:=by simpa using hj
  rw[if_pos hj];clear hj;go_enter Tryz.func118,Tryz.ntmps118;go_wp2_with fail
  go_quiet ((go_at_call 112;exact Calls.quiet_of_same (J9 (H5.o _))))
  go_wp2_with fail;go_ret;exact⟨rfl,vL _⟩
 ·have e1:(j==id)=false:=by simpa using hj
  rw[if_neg hj];clear hj;go_enter Tryz.func118,Tryz.ntmps118;go_wp2_with fail
  go_quiet ((go_at_call 112;exact Calls.quiet_of_same (J9 (H5.o _))))
  go_wp2_with fail;go_ret;exact⟨rfl,vL _⟩
end
end Go.Proofs.YtjnhnlabpccgjaaGreatDoor
