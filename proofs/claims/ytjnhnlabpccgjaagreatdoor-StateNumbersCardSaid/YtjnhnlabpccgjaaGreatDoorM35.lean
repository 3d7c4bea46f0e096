/- The -/
import Derived.Test.YtjnhnlabpccgjaaGreatDoorM34
import Derived.Deep.QuietTactic
import Derived.BigQuiet
set_option maxRecDepth 100000
set_option maxHeartbeats 64000000
set_option linter.all false
namespace Go.Proofs.YtjnhnlabpccgjaaGreatDoor
open Go.ChangeShapes Go.WideShapes Go.ChangeAt Go.RowKit
theorem wU{T:aL}{id aA v:Int}(h:rM T id aA=v)(hv:v≠0):eX T id aA=(v,T):=by
 unfold eX;rw[h,if_neg hv]
theorem AO{T:aL}{id aA v:Int}(h:uK T id aA=v)(hv:v≠0):eF T id aA=(v,T):=by
 unfold eF;rw[h,if_neg hv]
section
variable{F:Nat→Prop}{r:Nat}{T:aL}
theorem Qn(id aA:Int)(w:World)(h:jW F w r T)(hT:dG T)(ht0:0≤aA∧aA≤18446744073709551615):
  Calls Tryz.prog 120 #[ptr r,.int .i64 id,.int .u64 aA] w (bO F w r (eX T id aA).2 (.int .i64 (eX T id aA).1)):=by
 have HF:=acA (sZ id w h hT.toBJ);have hr0:=h.low r h.own;have HH:=acA h;by_cases h0:bV T id=0
 ·obtain⟨x,hx,hk⟩:∃x,aj id T=some x∧x.kind≠2:=by
   unfold bV at h0;cases hx:aj id T with
   |none=>rw[hx]at h0;cases h0
   |some x=>
    rw[hx]at h0;exact⟨x,rfl,fun hk=>by simp[hk]at h0⟩
  obtain⟨k,hi,hq⟩:=mI hT.sorted hx;have hrf:Ka T id=k:=by unfold Ka;rw[if_pos h0];exact hi
  rw[hrf,h0]at HF;obtain⟨bN,oN,cN,hc0,hO,hbw,hkl,c0,c1,c2,c3,c4,c5⟩:=h.node hq;simp only at c0 c1 c2 c3 c4 c5;have i0:(0:Int)≤k:=by omega
  have hlen:=hT.len;have F7:=acA hq;have HS:=acA hT.sorted;obtain⟨i6,a6,b6,s6,d6⟩:=aap nodeInfo;have lT:=acA (And.intro a6 (And.intro b6 (And.intro s6 d6)));obtain⟨aN,cN',aD,cD,aE,cE,h1,h2,h3,h4,h8,h9,h10,h11⟩:=h.head;obtain⟨p0,p1,p2,pf⟩:=jy h1;rw[p0]at hc0;simp only[aac,aar,abG]at hc0;obtain⟨rfl,rfl⟩:=hc0;have Af:=acA h1;have Cn:=acA h8;obtain⟨n,hn⟩:∃n,n=T.length:=⟨_,rfl⟩;rw[←hn]at p0 hlen hkl h2 Cn;have lG:=acA hn;have hf0:=pf 0;have hfp:=hO.2;have i1:(k:Int)<n:=by omega
  have hrw:=hr0;have uO:=acA (hT.each id x hx);have HX:=acA hx;have hkx:=hk;clear a6 b6 s6 d6 h1 h8 h9 h10 h11 hi hrf h hq hn p1 p2 pf hO hT h0;have he:rM T id aA=if x.closed=false then 25 else if aA<x.aA then 28 else if 1099511627776<aA then 1 else 0:=by
   unfold rM;rw[hx];simp only[if_neg hk]
  clear hx hk hkx;cases hcl:x.closed with
  |false=>
   rw[hcl]at c5;have HQ:=acA (wU (he.trans (if_pos hcl)) (by omega));clear hcl he;go_enter Tryz.func120,Tryz.ntmps120;go_wp2_with fail;refine HF.o.mono ?_;rintro e w1 ⟨rfl,rfl⟩;go_wp2_with fail;go_ret;exact bO.no HH.o acD HQ.o
  |true=>
   rw[hcl]at c5;rw[if_neg (by rw[hcl];decide)]at he;by_cases h5:aA<x.aA
   ·have HQ:=acA (wU (he.trans (if_pos h5)) (by omega));have hd5:decide (aA<x.aA)=true:=by simpa using h5
    clear hcl he;go_enter Tryz.func120,Tryz.ntmps120;go_wp2_with fail;refine HF.o.mono ?_;rintro e w1 ⟨rfl,rfl⟩;go_wp2_with fail;go_ret;exact bO.no HH.o acD HQ.o
   ·rw[if_neg h5]at he;have hd5:decide (aA<x.aA)=false:=by simpa using h5
    by_cases h6:1099511627776<aA
    ·have HQ:=acA (wU (he.trans (if_pos h6)) (by omega));have hd6:decide ((1099511627776:Int)<aA)=true:=by simpa using h6
     clear hcl he;go_enter Tryz.func120,Tryz.ntmps120;go_wp2_with fail;refine HF.o.mono ?_;rintro e w1 ⟨rfl,rfl⟩;go_wp2_with fail;go_ret;exact bO.no HH.o acD HQ.o
    ·have hd6:decide ((1099511627776:Int)<aA)=false:=by simpa using h6
     have HQ:acB (eX T id aA=(0,bq id (fun x=>{x with aA:=aA}) T)):=by
      show eX T id aA=_;unfold eX;rw[he,if_neg h6];rfl
     clear hcl he;go_enter Tryz.func120,Tryz.ntmps120;go_wp2_with fail;refine HF.o.mono ?_;rintro e w1 ⟨rfl,rfl⟩;go_upto_region 10 with(fail)
     go_cut [] (fun wx=>cu w r (.slice aD (List.map (fun q:Int×bP=>q.2.b) T).length cD) (.slice aE (aX T).length cE) T wx)
     case first=>
      go_wp2_with ((at_builtin;refine iq rfl _ _ 110 rfl w.heap.size 39 _ _ 6 48 Tryz.underlying110 lT.o.1 lT.o.2.1 lT.o.2.2.1 lT.o.2.2.2 rfl (by omega) _ 0 [] rfl (gI (MapKept.heap_alloc w _).1 acC) _ n _ (T.flatMap dV) rfl (Cn.o.below (acD.alloc acC _) acC) (iV _) (by unfold maxLen;omega) (by omega) (by simp) ?_;intro A1 c1' w1 hown1 hb1;have hB1:=((Below.refl w.heap.size w).alloc acC _).trans hb1;have hf1:w1.frozen? ⟨r,0,none⟩=false:=(hB1.frozen (p:=⟨r,0,none⟩) hrw).trans hf0;have XW:=(hB1.cell (p:=⟨r,0,none⟩) hrw).trans p0))
      go_meet
      obtain⟨-,hcc,-,hrow2⟩:=qw (w:=w) hown1 (by unfold maxLen;omega) acC;have hn:=lG.o;rw[List.nil_append,Nat.zero_add,hn]at hrow2;rw[Nat.zero_add,hn]at hcc;have:=cu.mk_ hrw Af.o hB1 hcc hrow2 (nA hown1);rw[←hn]at this;exact this
     case rest=>
      obtain⟨w1,rfl⟩:∃w1:World,w1=wc:=⟨_,rfl⟩;obtain⟨g,off,c,q0,-,-,hlc,qf,hgr,hg1,hg2,hr1,gf,d0,d1,d2,d3,d4,d5⟩:=hcut.facts F7.o;rw[←lG.o]at q0;have Rs:=gf (off+k*6+4);have HM:=acA hcut;have K6:=acA q0;clear hcut qf gf hlc;go_wp2_with fail;go_ret;rw[HQ.o];have h0:=K6.o;rw[lG.o]at h0;have:=cu.f_ HM.o (by rw[←lG.o]at h0⊢;exact h0) (k:=k) (j:=4) (q':=(id,{x with aA:=aA})) (v:= .int .u64 aA) F7.o (by omega) rfl;rw[←Nat.add_assoc]at this;have h7:=iP.uw HH.o Af.o this (.int .i64 0);have h8:=qp (f:=fun x:bP=>{x with aA:=aA}) HS.o F7.o;simp only at h8;rw[h8]at h7;refine⟨h7.1,h7.2.1,?_⟩;rw[qD (fun _=>by exact rfl),ow (fun _=>by exact rfl)];exact h7.2.2
 ·have HQ:=acA (wU (T:=T) (id:=id) (aA:=aA) (v:=bV T id) (by
   unfold rM bV at*;cases hx:aj id T with
   |none=>rfl
   |some x=>
    rw[hx]at h0;by_cases hk:x.kind=2
    ·simp[hk]
    ·exact absurd (by simp[hk]) h0) h0)
  generalize bV T id=f at*;have hne:(f==0)=false:=by simpa using h0
  have hne2:(f !=0)=true:=by simpa using h0
  clear h hT h0;go_enter Tryz.func120,Tryz.ntmps120;go_wp2_with fail;refine HF.o.mono ?_;rintro e w1 ⟨rfl,rfl⟩;go_wp2_with fail;go_ret;exact bO.no HH.o acD HQ.o
end
section
variable{F:Nat→Prop}{r:Nat}{T:aL}
theorem Qo(id aA:Int)(w:World)(h:jW F w r T)(hT:dG T)(ht0:0≤aA∧aA≤18446744073709551615):
  Calls Tryz.prog 108 #[ptr r,.int .i64 id,.int .u64 aA] w (bO F w r (eF T id aA).2 (.int .i64 (eF T id aA).1)):=by
 have HF:=acA (sZ id w h hT.toBJ);have hr0:=h.low r h.own;have HH:=acA h;by_cases h0:bV T id=0
 ·obtain⟨x,hx,hk⟩:∃x,aj id T=some x∧x.kind≠2:=by
   unfold bV at h0;cases hx:aj id T with
   |none=>rw[hx]at h0;cases h0
   |some x=>
    rw[hx]at h0;exact⟨x,rfl,fun hk=>by simp[hk]at h0⟩
  obtain⟨k,hi,hq⟩:=mI hT.sorted hx;have hrf:Ka T id=k:=by unfold Ka;rw[if_pos h0];exact hi
  rw[hrf,h0]at HF;obtain⟨bN,oN,cN,hc0,hO,hbw,hkl,c0,c1,c2,c3,c4,c5⟩:=h.node hq;simp only at c0 c1 c2 c3 c4 c5;have i0:(0:Int)≤k:=by omega
  have hlen:=hT.len;have F7:=acA hq;have HS:=acA hT.sorted;obtain⟨i6,a6,b6,s6,d6⟩:=aap nodeInfo;have lT:=acA (And.intro a6 (And.intro b6 (And.intro s6 d6)));obtain⟨aN,cN',aD,cD,aE,cE,h1,h2,h3,h4,h8,h9,h10,h11⟩:=h.head;obtain⟨p0,p1,p2,pf⟩:=jy h1;rw[p0]at hc0;simp only[aac,aar,abG]at hc0;obtain⟨rfl,rfl⟩:=hc0;have Af:=acA h1;have Cn:=acA h8;obtain⟨n,hn⟩:∃n,n=T.length:=⟨_,rfl⟩;rw[←hn]at p0 hlen hkl h2 Cn;have lG:=acA hn;have hf0:=pf 0;have hfp:=hO.2;have i1:(k:Int)<n:=by omega
  have hrw:=hr0;have uO:=acA (hT.each id x hx);have HX:=acA hx;have hkx:=hk;clear a6 b6 s6 d6 h1 h8 h9 h10 h11 hi hrf h hq hn p1 p2 pf hO hT h0;have he:uK T id aA=if x.closed then 27 else if 1099511627776<aA then 1 else 0:=by
   unfold uK;rw[hx];simp only[if_neg hk]
  clear hx hk;cases hcl:x.closed with
  |true=>
   rw[hcl]at c5;have HQ:=acA (AO (he.trans (if_pos hcl)) (by omega));clear hcl he;go_enter Tryz.func108,Tryz.ntmps108;go_wp2_with fail;refine HF.o.mono ?_;rintro e w1 ⟨rfl,rfl⟩;go_wp2_with fail;go_ret;exact bO.no HH.o acD HQ.o
  |false=>
   rw[hcl]at c5;rw[if_neg (by rw[hcl];decide)]at he;by_cases h6:1099511627776<aA
   ·have HQ:=acA (AO (he.trans (if_pos h6)) (by omega));have hd6:decide ((1099511627776:Int)<aA)=true:=by simpa using h6
    clear hcl he;go_enter Tryz.func108,Tryz.ntmps108;go_wp2_with fail;refine HF.o.mono ?_;rintro e w1 ⟨rfl,rfl⟩;go_wp2_with fail;go_ret;exact bO.no HH.o acD HQ.o
   ·have hd6:decide ((1099511627776:Int)<aA)=false:=by simpa using h6
    have HQ:acB (eF T id aA=(0,if x.links=0 then bS id (bq id (fun x:bP=>{x with closed:=true,aA:=aA}) T)else(bq id (fun x:bP=>{x with closed:=true,aA:=aA}) T))):=by
     show eF T id aA=_;unfold eF iR;rw[he,if_neg h6];refine aaO rfl ?_;show(match aj id (bq id (fun x:bP=>{x with closed:=true,aA:=aA}) T)with|none=>(bq id (fun x:bP=>{x with closed:=true,aA:=aA}) T)|some x=>if x.links=0∧x.closed=true then bS id (bq id (fun x:bP=>{x with closed:=true,aA:=aA}) T)else(bq id (fun x:bP=>{x with closed:=true,aA:=aA}) T))=_;rw[aW,if_pos rfl,HX.o];simp only[aat,aaI]
    clear hcl he;by_cases h9:x.links=0
    ·rw[if_pos h9]at HQ;have e9:(x.links==0)=true:=by simpa using h9
     clear h9;go_enter Tryz.func108,Tryz.ntmps108;go_wp2_with fail;refine HF.o.mono ?_;rintro e w1 ⟨rfl,rfl⟩;go_upto_region 8 with(fail)
     go_cut [] (fun wx=>cu w r (.slice aD (List.map (fun q:Int×bP=>q.2.b) T).length cD) (.slice aE (aX T).length cE) T wx)
     case first=>
      go_wp2_with ((at_builtin;refine iq rfl _ _ 110 rfl w.heap.size 39 _ _ 6 48 Tryz.underlying110 lT.o.1 lT.o.2.1 lT.o.2.2.1 lT.o.2.2.2 rfl (by omega) _ 0 [] rfl (gI (MapKept.heap_alloc w _).1 acC) _ n _ (T.flatMap dV) rfl (Cn.o.below (acD.alloc acC _) acC) (iV _) (by unfold maxLen;omega) (by omega) (by simp) ?_;intro A1 c1' w1 hown1 hb1;have hB1:=((Below.refl w.heap.size w).alloc acC _).trans hb1;have hf1:w1.frozen? ⟨r,0,none⟩=false:=(hB1.frozen (p:=⟨r,0,none⟩) hrw).trans hf0;have XW:=(hB1.cell (p:=⟨r,0,none⟩) hrw).trans p0))
      go_meet
      obtain⟨-,hcc,-,hrow2⟩:=qw (w:=w) hown1 (by unfold maxLen;omega) acC;have hn:=lG.o;rw[List.nil_append,Nat.zero_add,hn]at hrow2;rw[Nat.zero_add,hn]at hcc;have:=cu.mk_ hrw Af.o hB1 hcc hrow2 (nA hown1);rw[←hn]at this;exact this
     case rest=>
      obtain⟨w1,rfl⟩:∃w1:World,w1=wc:=⟨_,rfl⟩;obtain⟨g,off,c,q0,-,-,hlc,qf,hgr,hg1,hg2,hr1,gf,d0,d1,d2,d3,d4,d5⟩:=hcut.facts F7.o;rw[←lG.o]at q0;have Rs:=gf (off+k*6+5);have HM:=acA hcut;have K6:=acA q0;clear hcut qf gf hlc;go_upto_region 9 with(fail)
      go_cut [] (fun wx=>cu w r (.slice aD (List.map (fun q:Int×bP=>q.2.b) T).length cD) (.slice aE (aX T).length cE) (T.set k (id,({x with closed:=true}:bP))) wx)
      case first=>
       go_wp2_with fail
       go_meet
       have h0:=K6.o;rw[lG.o]at h0;have:=cu.f_ HM.o (by rw[←lG.o]at h0⊢;exact h0) (k:=k) (j:=5) (q':=(id,{x with closed:=true})) (v:= .bool true) F7.o (by omega) rfl;rw[←Nat.add_assoc]at this;exact this
      case rest=>
       clear q0 d0 d1 d2 d3 d4 d5 Rs hgr hg1 hg2 hr1;obtain⟨w2,rfl⟩:∃w2:World,w2=wc:=⟨_,rfl⟩;have hset:(T.set k (id,({x with closed:=true}:bP)))[k]? =some (id,({x with closed:=true}:bP)):=by
        have hk1:k<T.length:=by have:=lG.o;omega
        rw[aa1 hk1]
       have Zr:=acA hset;have Hr:acB (n=(T.set k (id,({x with closed:=true}:bP))).length):=by
        show n=_;rw[aa0];exact lG.o
       clear hset;obtain⟨g2,off2,c2z,q0,-,-,hlc,qf,hgr,hg1,hg2,hr1,gf,d0,d1,d2,d3,d4,d5⟩:=hcut.facts Zr.o;rw[←Hr.o]at q0;have Rs:=gf (off2+k*6+4);have Gt:=acA hcut;have Bo:=acA q0;clear hcut qf gf hlc;go_upto_region 10 with(fail)
       go_cut [] (fun wx=>bO F w r (bq id (fun x:bP=>{x with closed:=true,aA:=aA}) T) (.tuple #[]) (.returned (.tuple #[])) wx)
       case first=>
        go_wp2_with fail
        go_meet
        have h0:=Bo.o;rw[Hr.o]at h0;have:=cu.f_ Gt.o (by rw[←Hr.o]at h0⊢;exact h0) (k:=k) (j:=4) (q':=(id,{x with closed:=true,aA:=aA})) (v:= .int .u64 aA) Zr.o (by omega) rfl;rw[←Nat.add_assoc]at this;rw[List.set_set]at this;have h7:=iP.uw HH.o Af.o this (.tuple #[]);have h8:=qp (f:=fun x:bP=>{x with closed:=true,aA:=aA}) HS.o F7.o;simp only at h8;rw[h8]at h7;refine⟨h7.1,h7.2.1,?_⟩;rw[qD (fun _=>by exact rfl),ow (fun _=>by exact rfl)];exact h7.2.2
       case rest=>
        clear q0 d0 d1 d2 d3 d4 d5 Rs hgr hg1 hg2 hr1;obtain⟨w3,rfl⟩:∃w3:World,w3=wc:=⟨_,rfl⟩;have HT3:=acA hcut;have IK:=hcut.2.2;have hr3:r<w3.heap.size:=IK.low r IK.own;have hset:(bq id (fun x:bP=>{x with closed:=true,aA:=aA}) T)[k]? =some (id,({x with closed:=true,aA:=aA}:bP)):=by
         have h8:=qp (f:=fun x:bP=>{x with closed:=true,aA:=aA}) HS.o F7.o;simp only at h8;have hk1:k<T.length:=by have:=lG.o;omega
         rw[←h8,aa1 hk1]
        obtain⟨bG,oG,cG,e0,hOG,hbG,hkG,-,-,e2,-,-,-⟩:=IK.node hset;simp only at e2;rw[jd,←lG.o]at e0;have MJ:acB (aj id (bq id (fun x:bP=>{x with closed:=true,aA:=aA}) T)=some ({x with closed:=true,aA:=aA}:bP)):=by
         show aj id (bq id (fun x:bP=>{x with closed:=true,aA:=aA}) T)=_;rw[aW,if_pos rfl,HX.o];rfl
        have HSL:acB (aT lI (bq id (fun x:bP=>{x with closed:=true,aA:=aA}) T)∧(bq id (fun x:bP=>{x with closed:=true,aA:=aA}) T).length≤64):=by
         refine⟨ng _ _ HS.o,?_⟩;rw[jd,←lG.o];exact hlen
        have Wm:=acA (vR id _ w3 IK HSL.o.1 HSL.o.2 MJ.o (uO.o.file (uO.o.kind.resolve_right hkx)));clear hcut IK hset hOG hkG;go_wp2_with fail;refine Wm.o.mono ?_;rintro e w4 Ki;have wG:=acA Ki;obtain rfl:=Ki.1;clear Ki;go_wp2_with fail;go_ret;rw[HQ.o];exact(HT3.o.trans HH.o.low wG.o).val _
    ·rw[if_neg h9]at HQ;have e9:(x.links==0)=false:=by simpa using h9
     clear h9;go_enter Tryz.func108,Tryz.ntmps108;go_wp2_with fail;refine HF.o.mono ?_;rintro e w1 ⟨rfl,rfl⟩;go_upto_region 8 with(fail)
     go_cut [] (fun wx=>cu w r (.slice aD (List.map (fun q:Int×bP=>q.2.b) T).length cD) (.slice aE (aX T).length cE) T wx)
     case first=>
      go_wp2_with ((at_builtin;refine iq rfl _ _ 110 rfl w.heap.size 39 _ _ 6 48 Tryz.underlying110 lT.o.1 lT.o.2.1 lT.o.2.2.1 lT.o.2.2.2 rfl (by omega) _ 0 [] rfl (gI (MapKept.heap_alloc w _).1 acC) _ n _ (T.flatMap dV) rfl (Cn.o.below (acD.alloc acC _) acC) (iV _) (by unfold maxLen;omega) (by omega) (by simp) ?_;intro A1 c1' w1 hown1 hb1;have hB1:=((Below.refl w.heap.size w).alloc acC _).trans hb1;have hf1:w1.frozen? ⟨r,0,none⟩=false:=(hB1.frozen (p:=⟨r,0,none⟩) hrw).trans hf0;have XW:=(hB1.cell (p:=⟨r,0,none⟩) hrw).trans p0))
      go_meet
      obtain⟨-,hcc,-,hrow2⟩:=qw (w:=w) hown1 (by unfold maxLen;omega) acC;have hn:=lG.o;rw[List.nil_append,Nat.zero_add,hn]at hrow2;rw[Nat.zero_add,hn]at hcc;have:=cu.mk_ hrw Af.o hB1 hcc hrow2 (nA hown1);rw[←hn]at this;exact this
     case rest=>
      obtain⟨w1,rfl⟩:∃w1:World,w1=wc:=⟨_,rfl⟩;obtain⟨g,off,c,q0,-,-,hlc,qf,hgr,hg1,hg2,hr1,gf,d0,d1,d2,d3,d4,d5⟩:=hcut.facts F7.o;rw[←lG.o]at q0;have Rs:=gf (off+k*6+5);have HM:=acA hcut;have K6:=acA q0;clear hcut qf gf hlc;go_upto_region 9 with(fail)
      go_cut [] (fun wx=>cu w r (.slice aD (List.map (fun q:Int×bP=>q.2.b) T).length cD) (.slice aE (aX T).length cE) (T.set k (id,({x with closed:=true}:bP))) wx)
      case first=>
       go_wp2_with fail
       go_meet
       have h0:=K6.o;rw[lG.o]at h0;have:=cu.f_ HM.o (by rw[←lG.o]at h0⊢;exact h0) (k:=k) (j:=5) (q':=(id,{x with closed:=true})) (v:= .bool true) F7.o (by omega) rfl;rw[←Nat.add_assoc]at this;exact this
      case rest=>
       clear q0 d0 d1 d2 d3 d4 d5 Rs hgr hg1 hg2 hr1;obtain⟨w2,rfl⟩:∃w2:World,w2=wc:=⟨_,rfl⟩;have hset:(T.set k (id,({x with closed:=true}:bP)))[k]? =some (id,({x with closed:=true}:bP)):=by
        have hk1:k<T.length:=by have:=lG.o;omega
        rw[aa1 hk1]
       have Zr:=acA hset;have Hr:acB (n=(T.set k (id,({x with closed:=true}:bP))).length):=by
        show n=_;rw[aa0];exact lG.o
       clear hset;obtain⟨g2,off2,c2z,q0,-,-,hlc,qf,hgr,hg1,hg2,hr1,gf,d0,d1,d2,d3,d4,d5⟩:=hcut.facts Zr.o;rw[←Hr.o]at q0;have Rs:=gf (off2+k*6+4);have Gt:=acA hcut;have Bo:=acA q0;clear hcut qf gf hlc;go_upto_region 10 with(fail)
       go_cut [] (fun wx=>bO F w r (bq id (fun x:bP=>{x with closed:=true,aA:=aA}) T) (.tuple #[]) (.returned (.tuple #[])) wx)
       case first=>
        go_wp2_with fail
        go_meet
        have h0:=Bo.o;rw[Hr.o]at h0;have:=cu.f_ Gt.o (by rw[←Hr.o]at h0⊢;exact h0) (k:=k) (j:=4) (q':=(id,{x with closed:=true,aA:=aA})) (v:= .int .u64 aA) Zr.o (by omega) rfl;rw[←Nat.add_assoc]at this;rw[List.set_set]at this;have h7:=iP.uw HH.o Af.o this (.tuple #[]);have h8:=qp (f:=fun x:bP=>{x with closed:=true,aA:=aA}) HS.o F7.o;simp only at h8;rw[h8]at h7;refine⟨h7.1,h7.2.1,?_⟩;rw[qD (fun _=>by exact rfl),ow (fun _=>by exact rfl)];exact h7.2.2
       case rest=>
        clear q0 d0 d1 d2 d3 d4 d5 Rs hgr hg1 hg2 hr1;obtain⟨w3,rfl⟩:∃w3:World,w3=wc:=⟨_,rfl⟩;have HT3:=acA hcut;have IK:=hcut.2.2;have hr3:r<w3.heap.size:=IK.low r IK.own;have hset:(bq id (fun x:bP=>{x with closed:=true,aA:=aA}) T)[k]? =some (id,({x with closed:=true,aA:=aA}:bP)):=by
         have h8:=qp (f:=fun x:bP=>{x with closed:=true,aA:=aA}) HS.o F7.o;simp only at h8;have hk1:k<T.length:=by have:=lG.o;omega
         rw[←h8,aa1 hk1]
        obtain⟨bG,oG,cG,e0,hOG,hbG,hkG,-,-,e2,-,-,-⟩:=IK.node hset;simp only at e2;rw[jd,←lG.o]at e0;have MJ:acB (aj id (bq id (fun x:bP=>{x with closed:=true,aA:=aA}) T)=some ({x with closed:=true,aA:=aA}:bP)):=by
         show aj id (bq id (fun x:bP=>{x with closed:=true,aA:=aA}) T)=_;rw[aW,if_pos rfl,HX.o];rfl
        have HSL:acB (aT lI (bq id (fun x:bP=>{x with closed:=true,aA:=aA}) T)∧(bq id (fun x:bP=>{x with closed:=true,aA:=aA}) T).length≤64):=by
         refine⟨ng _ _ HS.o,?_⟩;rw[jd,←lG.o];exact hlen
        have Wm:=acA (vR id _ w3 IK HSL.o.1 HSL.o.2 MJ.o (uO.o.file (uO.o.kind.resolve_right hkx)));clear hcut IK hset hOG hkG;go_wp2_with fail;go_ret;rw[HQ.o];exact HT3.o.val _
 ·have HQ:=acA (AO (T:=T) (id:=id) (aA:=aA) (v:=bV T id) (by
   unfold uK bV at*;cases hx:aj id T with
   |none=>rfl
   |some x=>
    rw[hx]at h0;by_cases hk:x.kind=2
    ·simp[hk]
    ·exact absurd (by simp[hk]) h0) h0)
  generalize bV T id=f at*;have hne:(f==0)=false:=by simpa using h0
  have hne2:(f !=0)=true:=by simpa using h0
  clear h hT h0;go_enter Tryz.func108,Tryz.ntmps108;go_wp2_with fail;refine HF.o.mono ?_;rintro e w1 ⟨rfl,rfl⟩;go_wp2_with fail;go_ret;exact bO.no HH.o acD HQ.o
end
theorem F8{T:aL}{id v:Int}(h:jG T id=v)(hv:v≠0):fB T id=(v,T):=by
 unfold fB;rw[h,if_neg hv]
def nU(E:List kJ)(id:Int)(m:Nat):List kJ:=E.take m++(E.drop m).filter fun e=> !decide (e.2.2=id)
theorem Qp{E:List kJ}{id:Int}{m:Nat}{e:kJ}(hx:E[m]? =some e):(nU E id (m+1))[m]? =some e:=by
 obtain⟨hm,h⟩:=aae.1 hx;unfold nU;rw[aaG (by rw[aan];omega),aaC,if_pos (by omega)];exact hx
theorem Qq{E:List kJ}{id:Int}{m:Nat}(hm:m≤E.length):m≤(nU E id m).length∧(nU E id m).length≤E.length:=by
 unfold nU;have:=aaY (fun e:kJ=> !decide (e.2.2=id)) (E.drop m);rw[aaM]at this;rw[List.length_append,aan];omega
theorem Qr{E:List kJ}{id:Int}{m:Nat}{e:kJ}(hx:E[m]? =some e)(he:e.2.2=id):(nU E id (m+1)).take m++(nU E id (m+1)).drop (m+1)=nU E id m:=by
 obtain⟨hm,h⟩:=aae.1 hx;unfold nU;have hl:(E.take (m+1)).length=m+1:=by rw[aan];omega
 rw[List.take_append_of_le_length (by omega),List.take_take,Nat.min_eq_left (by omega),List.drop_append_of_le_length (by omega),aaD (by omega),List.nil_append];congr 1;rw[aa2 hm,h,aaR];simp[he]
theorem UF{E:List kJ}{id:Int}{m:Nat}{e:kJ}(hx:E[m]? =some e)(he:e.2.2≠id):nU E id (m+1)=nU E id m:=by
 obtain⟨hm,h⟩:=aae.1 hx;unfold nU;rw[aah hm,h,aa2 hm,h,aaR];simp[he]
section
variable{F:Nat→Prop}{r:Nat}{T:aL}
theorem Qs(id:Int)(w:World)(h:jW F w r T)(hT:dG T):
  Calls Tryz.prog 177 #[ptr r,.int .i64 id] w (bO F w r (fB T id).2 (.int .i64 (fB T id).1)):=by
 have HF:=acA (sZ id w h hT.toBJ);have hr0:=h.low r h.own;have HH:=acA h;by_cases h0:bV T id=0
 ·obtain⟨x,hx,hk⟩:∃x,aj id T=some x∧x.kind≠2:=by
   unfold bV at h0;cases hx:aj id T with
   |none=>rw[hx]at h0;cases h0
   |some x=>
    rw[hx]at h0;exact⟨x,rfl,fun hk=>by simp[hk]at h0⟩
  obtain⟨k,hi,hq⟩:=mI hT.sorted hx;have hrf:Ka T id=k:=by unfold Ka;rw[if_pos h0];exact hi
  rw[hrf,h0]at HF;obtain⟨bN,oN,cN,hc0,hO,hbw,hkl,c0,c1,c2,c3,c4,c5⟩:=h.node hq;simp only at c0 c1 c2 c3 c4 c5;have i0:(0:Int)≤k:=by omega
  have hlen:=hT.len;have F7:=acA hq;have HS:=acA hT.sorted;have hr1:=hr0;have uO:=acA (hT.each id x hx);have HX:=acA hx;have hkx:=hk;have tX:=jw hT;have HTT:=acA hT;have HLN:=acA (rfl:T.length=T.length);obtain⟨aE,cE,p2,-,-,-⟩:=h.ent;obtain⟨n,hn⟩:∃n,n=(aX T).length:=⟨_,rfl⟩;rw[←hn]at p2 tX;have lG:=acA hn;obtain⟨tl,htl⟩:∃tl,tl=T.length:=⟨_,rfl⟩;rw[←htl]at hc0 hkl hlen;have i1:(k:Int)<tl:=by omega
  have he:jG T id=if x.closed then 27 else 0:=by
   unfold jG;rw[hx];simp only[if_neg hk]
  clear hx hk h hT h0 hn htl hi hq hrf hO;cases hcl:x.closed with
  |true=>
   rw[hcl]at c5;have HQ:=acA (F8 (he.trans (if_pos hcl)) (by omega));clear hcl he;go_enter Tryz.func177,Tryz.ntmps177;go_wp2_with fail;refine HF.o.mono ?_;rintro e w1 ⟨rfl,rfl⟩;go_wp2_with fail;go_ret;exact bO.no HH.o acD HQ.o
  |false=>
   rw[hcl]at c5;have HQ:acB (fB T id=(0,bS id (gM T id))):=by
    show fB T id=_;unfold fB;rw[he,if_neg (by rw[hcl];decide)];rfl
   clear hcl he;have e1:IntKind.i64.wrap ((n:Int)-1)=(n:Int)-1:=aak _ (by omega);go_enter Tryz.func177,Tryz.ntmps177;go_wp2_with fail;refine HF.o.mono ?_;rintro e w1 ⟨rfl,rfl⟩;go_wp2_with fail
   go_loopw [7] (fun i wr=>∃m:Nat,m≤n∧i= .int .i64 ((m:Int)-1)∧eB F w r T (T.map fun q=>q.2.b) (nU (aX T) id m) (.tuple #[]) (.returned (.tuple #[])) wr) (fun i _=>(intOf i+1).toNat)
   case atStart=>
    refine⟨n,Nat.le_refl _,rfl,?_⟩;have e2:nU (aX T) id n=aX T:=by
     unfold nU;have:=lG.o;rw[List.take_of_length_le (by omega),aaD (by omega)];simp
    rw[e2];exact eB.same HH.o acD
   case round=>
    obtain⟨m,hm,rfl,hTr⟩:=hrel;have HTr:=acA hTr;clear hTr;cases m with
    |zero=>
     have HR:acB (bO F w r (gM T id) (.tuple #[]) (.returned (.tuple #[])) wr):=by
      refine⟨rfl,HTr.o.2.1,?_⟩;have h1:=HTr.o.2.2.names (T':=gM T id) (by unfold gM;rw[List.length_map]) (J_ id T);rw[show nU (aX T) id 0=(aX T).filter fun e=> !decide (e.2.2=id)by unfold nU;simp,←DU,←ME id T]at h1;exact h1
     have hP:=HTT.o.toBJ.strip id;have Wm:=acA (vR id (iC id x) wr HR.o.2.2 hP.sorted hP.len (by rw[mW,HX.o];rfl) (by
      unfold iC;simp only;rw[uO.o.file (uO.o.kind.resolve_right hkx)];rfl))
     clear hP;rw[show((0:Nat):Int)-1= -1 by rfl];go_wp2_with fail;refine Wm.o.mono ?_;rintro e w4 Ki;have wG:=acA Ki;obtain rfl:=Ki.1;clear Ki;go_wp2_with fail;go_ret;rw[HQ.o];exact(HR.o.trans HH.o.low wG.o).val _
    |succ j=>
     have hjn:j<(aX T).length:=by have:=lG.o;omega
     have hx:(aX T)[j]? =some ((aX T)[j]'hjn):=List.getElem?_eq_getElem _;obtain⟨q,hqe⟩:∃q,q=(aX T)[j]'hjn:=⟨_,rfl⟩;rw[←hqe]at hx;have NZ:=acA hx;have hR:=HTr.o.2.2;have hrr:r<wr.heap.size:=hR.low r hR.own;obtain⟨aR,cR,s2,-,hrow,-⟩:=hR.ent;have hdl:=Qq (E:=aX T) (id:=id) (m:=j+1) (by omega);have Ag:=acA (Od j wr hR (by omega) (by have:=lG.o;omega));rw[show((j+1:Nat):Int)-1=(j:Int)by omega];obtain⟨b,off,rfl,hF,hb,hi,hc⟩:=hrow.wide kg rfl (Qp hx) (by omega);have d2:wr.cell? ⟨b,off+j*3+2,none⟩=some (.int .i64 q.2.2):=hc 2 (by omega);obtain⟨dl,hdle⟩:∃dl,dl=(nU (aX T) id (j+1)).length:=⟨_,rfl⟩;rw[←hdle]at s2 hdl hi;have j0:(0:Int)≤j:=by omega
     have j1:(j:Int)<dl:=by omega
     have e2:IntKind.i64.wrap ((j:Int)-1)=(j:Int)-1:=aak _ (by omega);clear hx hqe hR hrow hc hdle;by_cases hp:q.2.2=id
     ·have hpp:(q.2.2==id)=true:=by simpa using hp
      have HP:=acA (Qr NZ.o hp);clear hp;go_wp2_with fail;refine Ag.o.mono ?_;rintro e w4 Ki;have wG:=acA Ki;obtain rfl:=Ki.1;clear Ki;go_wp2_with fail;go_roundw
      case rel=>exact⟨j,by omega,rfl,by rw[←HP.o];exact HTr.o.trans HH.o.low wG.o⟩
      case measure=>simp[intOf]
     ·have hpp:(q.2.2==id)=false:=by simpa using hp
      have HP:=acA (UF NZ.o hp);clear hp;go_wp2_with fail;go_roundw
      case rel=>exact⟨j,by omega,rfl,by rw[←HP.o];exact HTr.o⟩
      case measure=>simp[intOf]
 ·have HQ:=acA (F8 (T:=T) (id:=id) (v:=bV T id) (by
   unfold jG bV at*;cases hx:aj id T with
   |none=>rfl
   |some x=>
    rw[hx]at h0;by_cases hk:x.kind=2
    ·simp[hk]
    ·exact absurd (by simp[hk]) h0) h0)
  generalize bV T id=f at*;have hne:(f==0)=false:=by simpa using h0
  have hne2:(f !=0)=true:=by simpa using h0
  clear h hT h0;go_enter Tryz.func177,Tryz.ntmps177;go_wp2_with fail;refine HF.o.mono ?_;rintro e w1 ⟨rfl,rfl⟩;go_wp2_with fail;go_ret;exact bO.no HH.o acD HQ.o
end
abbrev Kj(r:Nat)(w:World)(id:Int)(n:Nat):Prop:=Calls Tryz.prog 119 #[ptr r,.int .i64 id] w fun e w'=>e= .returned (.int .i64 n)∧Below w.heap.size w w'
def zD(E:List kJ)(id:Int)(d:Int→Nat)(M k m:Nat):Prop:=m≤M∧∀e∈E.take k,e.1=id→1+d e.2.2≤m
theorem zD.step{E:List kJ}{id:Int}{d:Int→Nat}{M k m m':Nat}{e:kJ}(h:zD E id d M k m)(hx:E[k]? =some e)(hm:m≤m')(hM:m'≤M)(he:e.1=id→1+d e.2.2≤m'):zD E id d M (k+1) m':=by
 obtain⟨hk,h2⟩:=aae.1 hx;refine⟨hM,fun y hy hyi=> ?_⟩;rw[aah hk,h2]at hy;rcases aaL.1 hy with h3|h3
 ·exact Nat.le_trans (h.2 y h3 hyi) hm
 ·simp only[List.mem_singleton]at h3;subst h3;exact he hyi
section
variable{F:Nat→Prop}{r:Nat}{T:aL}
theorem D6(id:Int)(x:bP)(d:Int→Nat)(w:World)(h:jW F w r T)(hT:dG T)(hx:aj id T=some x)(hd:∀e∈x.names,d e.2≤64)(hd0:∀e∈x.names,dL T e.2≠2→d e.2=0)
  (hc:∀e∈x.names,dL T e.2=2→∀w1,Below w.heap.size w w1→Kj r w1 e.2 (d e.2)):Kj r w id (maxD d x.names):=by
 have hE:=jw hT;have hr0:=h.low r h.own;have HH:=acA (fun w1 (hb:Below w.heap.size w w1)=>h.below hb acC);have HT:=acA hT;have HX:=acA hx;have HD:=acA hd;have HD0:=acA hd0;have HC:=acA hc;obtain⟨n,hn⟩:∃n,n=(aX T).length:=⟨_,rfl⟩;rw[←hn]at hE;have HL:=acA hn;have hmd:maxD d x.names≤65:=maxD_le d fun e he=>by have:=hd e he;omega
 obtain⟨M,hM⟩:∃M,M=maxD d x.names:=⟨_,rfl⟩;rw[←hM]at hmd⊢;have HM:=acA hM;clear h hT hx hd hd0 hc hn hM;unfold Kj;go_enter Tryz.func119,Tryz.ntmps119;go_wp2_with fail
 go_loopw [5,6] (fun v i wr=>∃k m:Nat,k≤n∧i= .int .i64 k∧v= .int .i64 m∧zD (aX T) id d M k m∧Below w.heap.size w wr) (fun _ i _=>n-(intOf i).toNat)
 case atStart=>exact⟨0,0,by omega,rfl,rfl,⟨Nat.zero_le _,by simp⟩,Below.refl _ _⟩
 case round=>
  obtain⟨k,m,hk,rfl,rfl,hrel,hB⟩:=hrel;have HR:=acA hrel;have HB:=acA hB;have hmM:=hrel.1;have hs:=hB.size;obtain⟨aE,cE,s2,-,hrow,-⟩:=(HH.o wr hB).ent;rw[←HL.o]at s2 hrow;have hrr:r<wr.heap.size:=by omega
  clear hrel hB;by_cases hlt:k<n
  ·have hkn:k<(aX T).length:=by have:=HL.o;omega
   have hx:(aX T)[k]? =some ((aX T)[k]'hkn):=List.getElem?_eq_getElem _;obtain⟨q,hqe⟩:∃q,q=(aX T)[k]'hkn:=⟨_,rfl⟩;rw[←hqe]at hx;have HQ:=acA hx;obtain⟨b,off,rfl,hF,hb,hi,hcc⟩:=hrow.wide kg HL.o.symm hx (by omega);have c0:wr.cell? ⟨b,off+k*3,none⟩=some (.int .i64 q.1):=hcc 0 (by omega);have c2:wr.cell? ⟨b,off+k*3+2,none⟩=some (.int .i64 q.2.2):=hcc 2 (by omega);have i0:(0:Int)≤k:=by omega
   have i1:(k:Int)<n:=by omega
   clear hx hqe hrow hcc;by_cases hp:q.1=id
   ·have hpp:(q.1==id)=true:=by simpa using hp
    have hmem:q.2∈x.names:=by
     obtain⟨z,hz,hm⟩:=(mJ HT.o.sorted).1 (aax HQ.o);rw[hp,HX.o]at hz;cases hz;exact hm
    obtain⟨y,hy⟩:=aaf.1 (HT.o.leads id x HX.o _ hmem).1;have uT:=acA (nu q.2.2 wr (HH.o wr HB.o) HT.o.toBJ);have hnd:gq T q.2.2=j_ q.2.2 y:=by unfold gq;rw[hy]
    rw[hnd]at uT;unfold j_ at uT;have hge:1+d q.2.2≤M:=by rw[HM.o];exact yX d hmem
    by_cases hk2:y.kind=2
    ·rw[hk2]at uT;have HCH:=acA (HC.o _ hmem ((dM hy).trans hk2));obtain⟨dd,hdd⟩:∃dd,dd=d q.2.2:=⟨_,rfl⟩;rw[←hdd]at HCH hge;have nR:=acA hdd;have e1:IntKind.i64.wrap (1+(dd:Int))=1+(dd:Int):=aak _ (by omega);clear hp hnd hy hk2 hmem hdd;by_cases hgt:m<1+dd
     ·have hg2:decide ((m:Int)<1+(dd:Int))=true:=by simp;omega
      go_wp2_with fail;refine uT.o.mono ?_;rintro e w3 ⟨rfl,hb3⟩;have HB3:=acA (HB.o.trans (hb3.mono hs));have hs3:=hb3.size;have s2':w3.cell? ⟨r,2,none⟩=some (.slice (some ⟨b,off,none⟩) n cE):=(hb3.cell (p:=⟨r,2,none⟩) hrr).trans s2;have c2':w3.cell? ⟨b,off+k*3+2,none⟩=some (.int .i64 q.2.2):=(hb3.cell (p:=⟨b,off+k*3+2,none⟩) hb).trans c2;have hr3:r<w3.heap.size:=by omega
      have Qt:b<w3.heap.size:=by omega
      clear hb3 s2 c2 c0;go_wp2_with fail;(with_reducible refine Calls.mono (HCH.o _ (HB3.o.trans ((wall w3 _).mono HB3.o.size))) ?_);rintro e w4 ⟨rfl,hb4⟩;have dY:=acA ((HB3.o.trans ((wall w3 _).mono HB3.o.size)).trans (hb4.mono (by simp;omega)));clear hb4;go_wp2_with fail;go_roundw
      case rel=>exact⟨k+1,1+dd,by omega,by go_num,by go_num,HR.o.step HQ.o (by omega) (by omega) (fun _=>by rw[nR.o];exact Nat.le_refl _),dY.o⟩
      case measure=>simp[intOf];omega
     ·have hg2:decide ((m:Int)<1+(dd:Int))=false:=by simp;omega
      go_wp2_with fail;refine uT.o.mono ?_;rintro e w3 ⟨rfl,hb3⟩;have HB3:=acA (HB.o.trans (hb3.mono hs));have hs3:=hb3.size;have s2':w3.cell? ⟨r,2,none⟩=some (.slice (some ⟨b,off,none⟩) n cE):=(hb3.cell (p:=⟨r,2,none⟩) hrr).trans s2;have c2':w3.cell? ⟨b,off+k*3+2,none⟩=some (.int .i64 q.2.2):=(hb3.cell (p:=⟨b,off+k*3+2,none⟩) hb).trans c2;have hr3:r<w3.heap.size:=by omega
      have Qt:b<w3.heap.size:=by omega
      clear hb3 s2 c2 c0;go_wp2_with fail;(with_reducible refine Calls.mono (HCH.o _ (HB3.o.trans ((wall w3 _).mono HB3.o.size))) ?_);rintro e w4 ⟨rfl,hb4⟩;have dY:=acA ((HB3.o.trans ((wall w3 _).mono HB3.o.size)).trans (hb4.mono (by simp;omega)));clear hb4;go_wp2_with fail;go_roundw
      case rel=>exact⟨k+1,m,by omega,by go_num,rfl,HR.o.step HQ.o acC hmM (fun _=>by rw[←nR.o];omega),dY.o⟩
      case measure=>simp[intOf];omega
    ·have e2:(y.kind==2)=false:=by simpa using hk2
     have hd1:d q.2.2=0:=HD0.o _ hmem (by rw[dM hy];exact hk2);rw[hd1]at hge;have nR:=acA hd1;clear hp hnd hy hk2 hmem hd1;by_cases hgt:m<1
     ·have hg2:decide ((m:Int)<1)=true:=by simp;omega
      go_wp2_with fail;refine uT.o.mono ?_;rintro e w3 ⟨rfl,hb3⟩;have HB3:=acA (HB.o.trans (hb3.mono hs));clear hb3;go_wp2_with fail;go_roundw
      case rel=>exact⟨k+1,1,by omega,by go_num,rfl,HR.o.step HQ.o (by omega) (by omega) (fun _=>by rw[nR.o];exact Nat.le_refl _),HB3.o.trans ((wall w3 _).mono HB3.o.size)⟩
      case measure=>simp[intOf];omega
     ·have hg2:decide ((m:Int)<1)=false:=by simp;omega
      go_wp2_with fail;refine uT.o.mono ?_;rintro e w3 ⟨rfl,hb3⟩;have HB3:=acA (HB.o.trans (hb3.mono hs));clear hb3;go_wp2_with fail;go_roundw
      case rel=>exact⟨k+1,m,by omega,by go_num,rfl,HR.o.step HQ.o acC hmM (fun _=>by rw[nR.o];omega),HB3.o.trans ((wall w3 _).mono HB3.o.size)⟩
      case measure=>simp[intOf];omega
   ·have hpp:(q.1==id)=false:=by simpa using hp
    have HP:=acA hp;clear hp;go_wp2;go_roundw
    case rel=>exact⟨k+1,m,by omega,by go_num,rfl,HR.o.step HQ.o acC hmM (fun h=>absurd h HP.o),HB.o⟩
    case measure=>simp[intOf];omega
  ·go_wp2;go_ret;refine⟨dX ?_,HB.o⟩;have:M≤m:=by
    rw[HM.o];refine maxD_le d fun e he=>HR.o.2 (id,e.1,e.2) ?_ rfl;rw[List.take_of_length_le (by have:=HL.o;omega)];exact(mJ HT.o.sorted).2 ⟨x,HX.o,he⟩
   omega
theorem D7{T:aL}(hT:dG T){id:Int}(hk:dL T id≠2):∀n,jl T n id=0
 |0=>rfl
 |n+1=>by
  show maxD (jl T n) (bJ T id)=0;unfold bJ dL at*;cases hx:aj id T with
  |none=>rfl
  |some x=>
   rw[hx]at hk;simp only at hk⊢;rw[(hT.each id x hx).file ((hT.each id x hx).kind.resolve_right hk)];rfl
theorem F9(hT:dG T):∀(n:Nat) (id:Int) (w:World),jW F w r T→(aj id T).isSome=true→C9 T n id→n≤64→Kj r w id (jl T n id)
 |0,id,w,h,hi,hs,hn=>by
  obtain⟨x,hx⟩:=aaf.1 hi;have e:x.names=[]:=by have h1:bJ T id=[]:=hs;unfold bJ at h1;rw[hx]at h1;exact h1
  have:=D6 id x (fun _=>0) w h hT hx (fun _ _=>Nat.zero_le _) (fun _ _ _=>rfl) (fun y he=>by rw[e]at he;cases he);rw[e]at this;exact this
 |n+1,id,w,h,hi,hs,hn=>by
  obtain⟨x,hx⟩:=aaf.1 hi;have e:bJ T id=x.names:=by unfold bJ;rw[hx]
  have hs':∀e∈x.names,C9 T n e.2:=fun y hy=>hs y (by rw[e];exact hy);have:=D6 id x (jl T n) w h hT hx (fun y hy=>Nat.le_trans (hs' y hy).le (by omega)) (fun y hy hk=>D7 hT hk n) (fun y hy _ w1 hb=>
   F9 hT n y.2 w1 (h.below hb acC) (hT.leads id x hx y hy).1 (hs' y hy) (by omega))
  rw[←e]at this;exact this
end
theorem vS{w:World}(n:Nat):Below w.heap.size w (w.drewN n):=⟨rfl,rfl,rfl,Nat.le_refl _,fun _ _=>rfl⟩
theorem Kk{P:Program}{f:FuncId}{args:Array Value}{w:World}{v:Value}(h:Calls P f args w fun e w'=>e= .returned v∧w=w'):Calls P f args w fun e w'=>e= .returned v∧w'=w:=h.mono fun e w' ⟨h1,h2⟩=>⟨h1,h2.symm⟩
section
variable{F:Nat→Prop}{r:Nat}{T:aL}
theorem Ga(d:Int)(nm:Nm)(id j:Int)(x:bP)(w:World)(h:jW F w r T)(hT:dG T)(hx:aj d T=some x)(hn:aj nm x.names=some j):
  Calls Tryz.prog 118 #[ptr r,.int .i64 d,.string (strOf nm),.int .i64 id] w fun e w'=>e= .returned (.int .i64 (if j=id then 0 else 21))∧Below w.heap.size w w':=by
 have hE:(aX T).length≤1000000:=by have:=jw hT;omega
 have H5:=acA (fun m=>lu d nm (w.drewN m) (h.below (vS m) acC) hE);obtain⟨k,hk,he⟩:=sW hT.toBJ hx hn;rw[hk]at H5;have hr0:=h.low r h.own;obtain⟨aE,cE,s2,-,hrow,-⟩:=h.ent;obtain⟨b,off,rfl,hF,hb,hi,hcc⟩:=hrow.wide kg rfl he (by omega);have c2:w.cell? ⟨b,off+k*3+2,none⟩=some (.int .i64 j):=hcc 2 (by omega);have i0:(0:Int)≤k:=by omega
 have i1:(k:Int)<(aX T).length:=by omega
 generalize (aX T).length=n at*;clear h hT hx hn hk he hrow hcc hE;by_cases hj:j=id
 ·have e1:(j==id)=true:=by simpa using hj
  rw[if_pos hj];clear hj;go_enter Tryz.func118,Tryz.ntmps118;go_wp2_with fail
  go_quiet ((go_at_call 112;exact Calls.quiet_of_same (Kk (H5.o _))))
  go_wp2_with fail;go_ret;exact⟨rfl,vS _⟩
 ·have e1:(j==id)=false:=by simpa using hj
  rw[if_neg hj];clear hj;go_enter Tryz.func118,Tryz.ntmps118;go_wp2_with fail
  go_quiet ((go_at_call 112;exact Calls.quiet_of_same (Kk (H5.o _))))
  go_wp2_with fail;go_ret;exact⟨rfl,vS _⟩
end
end Go.Proofs.YtjnhnlabpccgjaaGreatDoor
