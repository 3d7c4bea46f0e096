/- The -/
import Derived.Test.YtjnhnlabpccgjaaGreatDoorM28
set_option maxRecDepth 100000
set_option maxHeartbeats 64000000
set_option linter.all false
namespace Go.Proofs.YtjnhnlabpccgjaaGreatDoor
open Go.ChangeShapes Go.WideShapes Go.ChangeAt Go.RowKit
theorem sH{T:aA}{p:List Nm}{kind v:Int}(h:kS T p kind=v)(hv:v≠0):bZ T p kind=((0,v),T):=by
 unfold bZ;rw[h,if_neg hv]
def newC(f kind:Int)(kb:Bool):List Value:=[.int .i64 f,.int .i64 kind,.int .i64 1,.int .i64 0,.int .u64 0,.bool kb]
theorem D8(f kind:Int)(kb:Bool):∀u∈newC f kind kb,u.oneCell'=true:=by
 intro u hu;simp only[newC,aan,abh,or_false]at hu;rcases hu with rfl|rfl|rfl|rfl|rfl|rfl<;>rfl
def Ka(T:aA)(f:Int)(w:World)(v:Value)(wx:World):Prop:=
 ∃k:Nat,k≤T.length∧v= .int .i64 k∧(∀x,b_ iA f x T=T.take k++(f,x)::T.drop k)∧w=wx
theorem Ka.of{T:aA}{f:Int}{w:World}{k:Nat}(hs:aI iA T)(hf:aj f T=none)(hk:k≤T.length)(ha:(T.take k).all (fun q=>decide (q.1<f))=true)(hx:∀q,T[k]? =some q→decide (q.1<f)=false):Ka T f w (.int .i64 k) w:=by
 refine⟨k,hk,rfl,fun x=> ?_,rfl⟩;obtain⟨h1,h2⟩:=xU ha hx hk;rw[put_at hs x hf,h1,h2]
theorem xZ{w u:World}{r:Nat}{x0 x1 x2:Value}{T T':aA}{f kind:Int}{kb:Bool}{k m n c:Nat}{A:Option Addr}{ys:List Value}(hr:r<w.heap.size)(h1:w.heap[r]? =some (.cells #[x0,x1,x2] 113 (0,0)))(hB:Below w.heap.size w u)
  (hT':T'=T.take k++(f,cu kind)::T.drop k∧kb=decide (kind=2))(hn:n=T.length)(hk:k≤n)(hmk:m=k)(hys:ys=(T.take k).flatMap dM)
  (hown:u.ownsRow w.heap.size 39 6 (.slice A (m+1+(n-k)) c) (m+1+(n-k)) ((ys++newC f kind kb)++(T.drop k).flatMap dM))(hm:(m+1+(n-k))*6≤maxLen):
  bW w r x1 x2 T' (u.setCell ⟨r,0,none⟩ (.slice A (k+1+(n-k)) c)):=by
 subst hmk hys;obtain⟨hT',hkb⟩:=hT';have hlen:T'.length=m+1+(n-m):=by rw[hT'];simp;omega
 obtain⟨-,hcc,-,hrow2⟩:=pF (w:=w) hown hm acu;rw[←hlen]at hcc hrow2⊢;have e6:T'.flatMap dM=((T.take m).flatMap dM++newC f kind kb)++(T.drop m).flatMap dM:=by
  rw[hT',hkb];simp only[aaG,List.flatMap_cons,TK];rfl
 rw[←e6]at hrow2;exact bW.mk_ hr h1 hB hcc hrow2 (mo hown)
theorem Each.ins{F:Nat→Prop}{w:World}{vs:List Value}{bs:List (List UInt8)}(h:Each F w vs bs)(hl:vs.length=bs.length)(k:Nat)(hk:k≤bs.length):Each F w ((vs.take k++[Value.slice none 0 0])++vs.drop k) (bs.take k++[]::bs.drop k):=by
 intro i b hb;rw[TK];by_cases hi:i<k
 ·rw[aaN (by rw[List.length_take];omega),aaD,if_pos hi]at hb⊢;exact h i b hb
 ·rw[aaw (by rw[List.length_take];omega),List.length_take]at hb⊢;rw[hl];have e1:min k bs.length=k:=by omega
  rw[e1]at hb⊢;obtain⟨j,hj⟩:∃j,i-k=j:=⟨_,rfl⟩;rw[hj]at hb⊢;cases j with
  |zero=>
   simp only[aai,Pd]at hb;subst hb;exact⟨none,0,rfl,⟨Nat.le_refl _,by simp[maxLen]⟩,ah.nil _ _ _⟩
  |succ j=>
   simp only[List.singleton_append,aas,abE]at hb⊢;exact h _ b hb
theorem Aw{F:Nat→Prop}{w w1 u:World}{r:Nat}{x0 x1 x2:Value}{T T':aA}{D D':List (List UInt8)}{E:List jT}{k m n c:Nat}{A:Option Addr}{vs ys:List Value}(h:gX F w r T D E)(h1:w.heap[r]? =some (.cells #[x0,x1,x2] 113 (0,0)))(hm:bW w r x1 x2 T' w1)(hB:Below w1.heap.size w1 u)
  (hD':D'=D.take k++[]::D.drop k∧D.length=n)(hk:k≤n)(he:Each (Off F r) w vs D)(hvl:vs.length=n)(hmk:m=k)(hys:ys=vs.take k)
  (hown:u.ownsRow w1.heap.size 28 1 (.slice A (m+1+(n-k)) c) (m+1+(n-k)) ((ys++[Value.slice none 0 0])++vs.drop k))(hmx:(m+1+(n-k))*1≤maxLen):
  dS F w r T' D' E (.tuple #[]) (.returned (.tuple #[])) (u.setCell ⟨r,1,none⟩ (.slice A (k+1+(n-k)) c)):=by
 subst hmk hys;obtain⟨hD',hDn⟩:=hD';have hlen:D'.length=m+1+(n-m):=by rw[hD'];simp;omega
 have hs1:=hm.1.size;obtain⟨-,hcc,-,hrow2⟩:=pF (w:=w) hown hmx hs1;rw[aaK]at hrow2;rw[←hlen]at hcc hrow2⊢;have hb2:=hB.size;refine gX.Gg h h1 hm hB hcc hrow2 ?_ (.tuple #[]);rw[hD'];exact(Each.ins he (by omega) m (by omega)).move (by omega) fun b hb hbw=>⟨⟨.inl hb.1,hb.2⟩,(hB.block b (by omega)).trans (hm.1.block b hbw hb.2)⟩
theorem Kc{F:Nat→Prop}{w w1:World}{b off n c k s:Nat}{vs:List Value}(h:ah F w (some ⟨b,off,none⟩) (n*s) vs)(hk:k≤n)(hcn:n≤c)(hb:Below w.heap.size w w1):
  ah F w1 (some ⟨b,off,none⟩) (k*s) (vs.take (k*s))∧ah F w1 (if c=k then some ⟨b,off,none⟩else some ⟨b,off+k*s,none⟩) ((n-k)*s) (vs.drop (k*s)):=by
 have h1:=h.below hb acu;have h2:=h1.take (k*s);have hks:k*s≤n*s:=ab8 s (by omega);rw[abu hks]at h2;have h4:=h1.drop (k*s);rw[←Nat.sub_mul]at h4;refine⟨h2,?_⟩;by_cases hce:c=k
 ·rw[if_pos hce];have hl:=h.length;have hkn:k=n:=by omega
  exact ah.zero _ _ _ (by rw[show n-k=0 by omega,abG]) (by rw[hkn];exact aaC (by omega))
 ·rw[if_neg hce];exact h4
section
variable{F:Nat→Prop}{r:Nat}{T:aA}
theorem bS.UM{w w':World}{v:Int}(h:jC F w r T)(hb:Below w.heap.size w w'){q:(Int×Int)×aA}(hq:q=((0,v),T)):bS F w r q.2 (.tuple #[.int .i64 q.1.1,.int .i64 q.1.2]) (.returned (.tuple #[.int .i64 0,.int .i64 v])) w':=by
 rw[hq];exact dS.same h hb
theorem Q_{S:Nat→Prop}(a:Option Addr)(n0 c0:Nat)(ls:List Nm)(kind:Int)(w:World)(h:jC F w r T)(hT:dZ T)(hS:aT S w a n0 (ls.map strOf))(hc:n0≤c0)(mQ:n0≤1000000):
  Calls Tryz.prog 100 #[ptr r,.slice a n0 c0,.int .i64 kind] w (bS F w r (bZ T ls kind).2 (.tuple #[.int .i64 (bZ T ls kind).1.1,.int .i64 (bZ T ls kind).1.2])):=by
 have hE:(aW T).length≤1000000:=by have:=iT hT;omega
 have H1:=acr (tN a n0 c0 ls w hS);have H3:=acr (fun w1 (hb:Below w.heap.size w w1)=>nP a n0 c0 ls w1 (h.below hb acu) hT hE (hS.below hb acu) hc mQ);have H5:=acr (fun w1 (hb:Below w.heap.size w w1) d nm=>kH d nm w1 (h.below hb acu) hE);have HH:=acr h;have HT:=acr hT;have hr0:=h.low r h.own;by_cases h0:bH ls=0
 ·rw[h0]at H1;by_cases hkk:kind=1∨kind=2
  ·obtain⟨kb,hkb⟩:∃kb:Bool,(kind==2)=kb:=⟨_,rfl⟩;have X4:(kind !=1&&kind !=2)=false:=by rcases hkk with rfl|rfl<;>rfl
   have hme:kS T ls kind=if (aH T ls).2.2≠0 then(aH T ls).2.2 else if (aj (aH T ls).2.1 (aU T (aH T ls).1)).isSome then 21 else if 64≤T.length then 4 else 0:=by
    unfold kS;rw[h0,if_neg (by simp),if_neg (fun hh=>hh hkk)]
   have hb1:(kind !=1)=kb:=by rw[←hkb];rcases hkk with rfl|rfl<;>rfl
   have hb2:(kind !=2)= !kb:=by rw[←hkb];rfl
   have HKB:acs (kb=decide (kind=2)):=by
    show kb=decide (kind=2);rw[←hkb];rcases hkk with rfl|rfl<;>rfl
   by_cases h3:(aH T ls).2.2=0
   ·have hpl:aH T ls=((aH T ls).1,(aH T ls).2.1,0):=aaE rfl (aaE rfl h3);obtain⟨x2,hx2,BR,-⟩:=jM hT h3;rw[if_neg (by rw[h3];simp)]at hme;obtain⟨d2,hd2⟩:∃d2,d2=(aH T ls).1:=⟨_,rfl⟩;obtain⟨n2,hn2⟩:∃n2,n2=(aH T ls).2.1:=⟨_,rfl⟩;rw[←hd2,←hn2]at hpl hme;rw[←hd2]at hx2;rw[hpl]at H3;simp only at H3;rw[dX hx2]at hme;have xX:=acr (fun w1 hb=>H5.o w1 hb d2 n2);clear h3 hd2 hn2;cases hn:aj n2 x2.names with
    |some j=>
     obtain⟨m,hm1,hm2⟩:=sD hT.towP hx2 hn;rw[hm1]at xX;rw[hn]at hme;have m0:¬(m:Int)<0:=by omega
     have m1:(0:Int)≤m:=by omega
     have HQ:=acr (sH (hme.trans (if_pos rfl)) (by omega));clear h hT hS hE H5 hpl hx2 BR hme hn hm1 hm2 h0 hkk hkb X4 hc;cases kb
     all_goals (
      go_enter aco,acd;go_wp2_with fail;refine H1.o.mono ?_;rintro e w1 ⟨rfl,hb1⟩;have HB1:=acr hb1;clear hb1;go_wp2_with fail;refine(H3.o w1 HB1.o).mono ?_;rintro e w3 ⟨rfl,hb3⟩;have HB3:=acr (HB1.o.trans (hb3.mono HB1.o.size));clear hb3;go_wp2_with fail;refine(xX.o w3 HB3.o).mono ?_;rintro e w4 ⟨rfl,rfl⟩;go_wp2_with fail
      go_ret2
      exact bS.UM HH.o HB3.o HQ.o)
    |none=>
     rw[vI hT.sorted hx2 hn]at xX;rw[hn]at hme;rw[if_neg (by simp)]at hme;by_cases h64:64≤T.length
     ·have HQ:=acr (sH (hme.trans (if_pos h64)) (by omega));obtain⟨tl,htl⟩:∃tl,tl=T.length:=⟨_,rfl⟩;have Fb:=acr htl;have hd64:decide (64≤tl)=true:=by rw[htl];simpa using h64
      have hd64':decide ((64:Int)≤(tl:Int))=true:=by rw[htl];simp;omega
      clear h hT hS hE H5 hpl hx2 BR hme hn h0 hkk hkb X4 hc h64 htl;cases kb
      all_goals (
       go_enter aco,acd;go_wp2_with fail;refine H1.o.mono ?_;rintro e w1 ⟨rfl,hb1⟩;have HB1:=acr hb1;clear hb1;go_wp2_with fail;refine(H3.o w1 HB1.o).mono ?_;rintro e w3 ⟨rfl,hb3⟩;have HB3:=acr (HB1.o.trans (hb3.mono HB1.o.size));clear hb3;go_wp2_with fail;refine(xX.o w3 HB3.o).mono ?_;rintro e w4 ⟨rfl,rfl⟩;obtain⟨aZ,cZ,z0,-⟩:=(HH.o.below HB3.o acu).nodes;rw[←Fb.o]at z0;have hr3:r<w3.heap.size:=by have:=HB3.o.size;omega
       go_wp2_with fail
       go_ret2
       exact bS.UM HH.o HB3.o HQ.o)
     ·rw[if_neg h64]at hme;obtain⟨f,hf0,hf1,hf2,hfn,hfs⟩:=hT.free;have HQ:acs (bZ T ls kind=(((f:Int),0),setName (b_ iA (f:Int) (cu kind) T) d2 n2 f)):=by
       show bZ T ls kind=_;unfold bZ vg;rw[hme,if_pos rfl,hpl,hf0]
      have Xa:=acr (vJ.of hT);have hdf:d2≠(f:Int):=fun e=>by rw[e,hfn]at hx2;cases hx2
      have HX1:acs (aj d2 (b_ iA (f:Int) (cu kind) T)=some x2∧aj n2 x2.names=none):=⟨by rw[eO,if_neg hdf];exact hx2,hn⟩;have yD:acs (vJ (b_ iA (f:Int) (cu kind) T)):=by
       refine⟨hT.sorted.b_ bY _ _,fun q hq=> ?_,by rw[Ba _ hfn];omega,by rw[JW hfn];have:=iT hT;omega⟩;unfold b_ at hq;rw[kL hfn]at hq;rcases (pX iA).1 hq with rfl|h2
       ·simp[cu,aI]
       ·exact(vJ.of hT).names q h2
      have qW:=acr hfn;have HFS:=acr hfs;have hlt64:T.length<64:=by omega
      obtain⟨n,hne⟩:∃n,n=T.length:=⟨_,rfl⟩;have jY:=acr hne;rw[←hne]at hlt64 hf2;have hd64:decide (64≤n)=false:=by simp;omega
      have hd64':decide ((64:Int)≤(n:Int))=false:=by simp;omega
      have HKBE:=acr hkb;have HFV:=acr (by rfl:(f:Int)=(f:Int));clear h hT hS hE H5 hpl hx2 BR hme hn h0 hkk X4 hc h64 hf0 hfn hfs hne hdf;go_enter aco,acd;go_wp2_with fail;refine H1.o.mono ?_;rintro e w1 ⟨rfl,hb1⟩;have HB1:=acr hb1;clear hb1;go_upto_region 4 with(fail)
      go_cut [23] (fun v wx=>v= .bool false∧w1=wx)
      case first=>
       cases kb
       all_goals (
        go_wp2_with fail
        go_meet
        exact⟨rfl,rfl⟩)
      case rest=>
       obtain⟨rfl,rfl⟩:=hcut;go_wp2_with fail;refine(H3.o w1 HB1.o).mono ?_;rintro e w3 ⟨rfl,hb3⟩;have HB3:=acr (HB1.o.trans (hb3.mono HB1.o.size));clear hb3;go_wp2_with fail;refine(xX.o w3 HB3.o).mono ?_;rintro e w4 ⟨rfl,rfl⟩;have tV:=HH.o.below HB3.o acu;have HAT:=acr (fun i=>zn i w3 tV (by have:=jY.o;omega));obtain⟨aN,cN,aD,cD,aE,cE,h1,h2,h3,h4,h8,h9,h10,h11⟩:=tV.head;obtain⟨p0,p1,p2,pf⟩:=iU h1;rw[←jY.o]at p0;have hrw:r<w3.heap.size:=tV.low r tV.own;have HR3:=acr tV;have Ab:=acr h1;have D9:=acr h8;have gQ:=acr h9;have hNc:n≤cN:=by have:=jY.o;omega
       have hDc:n≤cD:=by have:=jY.o;rw[List.length_map]at h3;omega
       have hfr0:=pf 0;clear tV h1 h2 h3 h4 h8 h9 h10 h11 p1 p2 pf;go_wp2_with fail
       go_loop [11] (fun v=>∃i:Nat,1≤i∧i≤f∧v= .int .i64 i) (fun v=>f-(intOf v).toNat)
       case atStart=>exact⟨1,by omega,hf1,rfl⟩
       case round=>
        obtain⟨i,hi1,hi2,rfl⟩:=hrel;have HA:=acr (HAT.o (i:Int));by_cases hlt:i<f
        ·obtain⟨y,hy⟩:=aaf.1 (HFS.o i hi1 hlt);obtain⟨k,hk,-⟩:=lC HT.o.sorted hy;rw[hk]at HA;have m0:¬(k:Int)<0:=by omega
         have m1:(0:Int)≤k:=by omega
         clear hy hk;go_wp2_with fail;refine HA.o.mono ?_;rintro e w4 ⟨rfl,rfl⟩;go_wp2_with fail
         go_round
         case rel=>exact⟨i+1,by omega,by omega,by go_num⟩
         case measure=>simp[intOf];omega
        ·obtain rfl:i=f:=by omega
         rw[DJ qW.o]at HA;clear hlt hi1 hi2;go_wp2_with fail;refine HA.o.mono ?_;rintro e w4 ⟨rfl,rfl⟩
         go_upto_block 2 with(fail)
         go_cut [12]from 51 to 71 (fun v wx=>Ka T i w3 v wx)
         case first=>
          go_wp2_with fail
          go_loop [12] (fun v=>∃k:Nat,k≤n∧v= .int .i64 k∧(T.take k).all (fun q=>decide (q.1<(i:Int)))=true) (fun v=>n-(intOf v).toNat)
          case atStart=>exact⟨0,by omega,rfl,by simp⟩
          case round=>
           obtain⟨k,hk,rfl,hall⟩:=hrel;have BS:=acr hall;clear hall;by_cases hlt:k<n
           ·have hx:T[k]? =some (T[k]'(by have:=jY.o;omega)):=List.getElem?_eq_getElem _;obtain⟨q,hq⟩:∃q,q=T[k]'(by have:=jY.o;omega):=⟨_,rfl⟩;rw[←hq]at hx;have HXQ:=acr hx;obtain⟨b,off,rfl,hF,hb,hi,hcc⟩:=D9.o.wide gK rfl hx (by omega);have q0:w3.cell? ⟨b,off+k*6,none⟩=some (.int .i64 q.1):=hcc 0 (by omega);clear hx hq hcc;have i0:(0:Int)≤k:=by omega
            have i1:(k:Int)<n:=by omega
            by_cases hp:q.1<(i:Int)
            ·have e1:decide (q.1<(i:Int))=true:=by simpa using hp
             have HST:=acr (wY BS.o HXQ.o e1);clear hp;go_wp2
             go_round
             case rel=>exact⟨k+1,by omega,by go_num,HST.o⟩
             case measure=>simp[intOf];omega
            ·have e1:decide (q.1<(i:Int))=false:=by simpa using hp
             have Mv:=acr (Ka.of (w:=w3) HT.o.sorted qW.o (by have:=jY.o;omega) BS.o (fun x hx=>by have:=HXQ.o;rw[this]at hx;cases hx;exact e1));clear hp;go_wp2
             go_meet
             exact Mv.o
           ·have Mv:=acr (Ka.of (w:=w3) (k:=k) HT.o.sorted qW.o (by have:=jY.o;omega) BS.o (fun x hx=>by
             have:=jY.o;rw[List.getElem?_eq_none (by omega)]at hx;cases hx))
            go_wp2
            go_meet
            exact Mv.o
         case rest=>
          obtain⟨k,hk,rfl,hput,rfl⟩:=hcut;have hkn:k≤n:=by have:=jY.o;omega
          have hn1:0<n:=by
           obtain⟨z,hz⟩:=aaf.1 (fD HT.o.w);have:=List.length_pos_of_mem (bM hz);have:=jY.o;omega
          have h1:=Ab.o;rw[List.length_map,←jY.o]at h1;have h8:=D9.o;rw[←jY.o]at h8;obtain⟨bN,oN,rfl,-,-,-⟩:=h8.at_ (by omega);obtain⟨vs,hv,Ke⟩:=gQ.o;rw[List.length_map,←jY.o]at hv;obtain⟨bD,oD,rfl,-,-,-⟩:=hv.at_ (by omega);have hlv:=hv.length;replace Ab:=acr h1;obtain⟨p0,p1,p2,pf⟩:=iU h1;have EL:acs (∀w4,Below w3.heap.size w3 w4→w4.cell? ⟨r,0,none⟩=some (.slice (some ⟨bN,oN,none⟩) n cN)∧w4.frozen? ⟨r,0,none⟩=false):=fun w4 hb=>⟨by rw[hb.cell (p:=⟨r,0,none⟩) hrw];exact p0,by rw[hb.frozen (p:=⟨r,0,none⟩) hrw];exact pf 0⟩;have qw:acs (∀w4,Below w3.heap.size w3 w4→ah (Off F r) w4 (some ⟨bN,oN,none⟩) (k*6) ((T.take k).flatMap dM)∧ah (Off F r) w4 (if cN=k then some ⟨bN,oN,none⟩else some ⟨bN,oN+k*6,none⟩) ((n-k)*6) ((T.drop k).flatMap dM)):=fun w4 hb=>by
           have:=Kc (c:=cN) h8 hkn hNc hb
           rwa [qz dM 6 gK,qA dM 6 gK]at this
          obtain⟨i6,a6,b6,s6,d6⟩:=aam nodeInfo;have kQ:=acr (And.intro a6 (And.intro b6 (And.intro s6 d6)));obtain⟨i1,a1,b1,s1,d1⟩:=aam zo;have HI1:=acr (And.intro a1 (And.intro b1 (And.intro s1 d1)));have HV:=acr hv;have HVL:=acr hlv;have ZU:acs (Each (Off F r) w3 vs (T.map fun q=>q.2.b)):=Ke;have wI:=acr (And.intro (fun u hu=>Each.one (F:=Off F r) (w:=w3) ZU.o (by rw[List.length_map,←jY.o];exact hlv) u (List.mem_of_mem_take hu):∀u∈vs.take k,u.oneCell'=true) (fun u hu=>Each.one (F:=Off F r) (w:=w3) ZU.o (by rw[List.length_map,←jY.o];exact hlv) u (List.mem_of_mem_drop hu):∀u∈vs.drop k,u.oneCell'=true));have vC:acs ((b_ iA (i:Int) (cu kind) T).map (fun q=>q.2.b)=(T.map fun q=>q.2.b).take k++[]::(T.map fun q=>q.2.b).drop k∧(T.map fun q=>q.2.b).length=n):=by
           refine⟨?_,by rw[List.length_map];exact jY.o.symm⟩;rw[hput,List.map_append,List.map_cons,aa3,abW];rfl
          have HFC:acs (b_ iA (i:Int) (cu kind) T=T.take k++((i:Int),cu kind)::T.drop k∧kb=decide (kind=2)):=⟨hput _,HKB.o⟩;have i0:(0:Int)≤k:=by omega
          have i1':(k:Int)≤cN:=by omega
          have i2:(k:Int)≤n:=by omega
          have i4:(n:Int)≤cN:=by omega
          have i5:(k:Int)≤cD:=by omega
          have i6':(n:Int)≤cD:=by omega
          clear a6 b6 s6 d6 a1 b1 s1 d1 h1 h8 hv Ke hlv p0 p1 p2 pf hput hk;go_upto_region 19 with(fail)
          go_cut [] (fun wx=>bW w3 r (.slice (some ⟨bD,oD,none⟩) n cD) (.slice aE (aW T).length cE) (b_ iA (i:Int) (cu kind) T) wx)
          case first=>
           go_wp2;refine wQ 25 ((fun w'=>w'.cell? ⟨r,0,none⟩=some (.slice (some ⟨bN,oN,none⟩) n cN)∧w'.frozen? ⟨r,0,none⟩=false)) ?_ fun hS=> ?_
           ·exact EL.o _ acv.drew
           refine aC 0 hS ?_;refine aC 2 hS ?_;refine aC 3 hS ?_;refine aC 4 hS ?_;refine aC 5 hS ?_;refine aC 6 hS ?_;refine aC 7 hS ?_;refine aC 9 hS ?_;refine aC 10 hS ?_;refine aC 11 hS ?_;refine aC 12 hS ?_;refine aC 13 hS ?_;refine aC 16 hS ?_;refine aC 17 hS ?_;refine aC 18 hS ?_;refine aC 19 hS ?_;refine aC 20 hS ?_;refine aC 21 hS ?_;refine oI 1 14 (fun K hK=> ?wa) fun K hK=> ?wb
           case wa=>
            go_simp;refine bV hK (EL.o _ (acv.drew.alloc acu _)) fun hS=> ?_;clear hK K;refine oI 8 14 (fun K hK=> ?waa) fun K hK=> ?wab
            case waa=>
             refine au (by rfl) (.tmp 73) (.tmp 79) 110 (by rfl) w3.heap.size 39 _ _ 6 48 Tryz.underlying110 kQ.o.1 kQ.o.2.1 kQ.o.2.2.1 kQ.o.2.2.2 rfl (by omega) _ 0 [] (by rfl) (fT (MapKept.heap_alloc w3.drew _).1 acu) _ k _ ((T.take k).flatMap dM) (by rfl) (qw.o _ (acv.drew.alloc acu _)).1 (g_ _) (by unfold maxLen;omega) (by omega) (by simp<;>omega) ?_;intro A1 c1 u1 hown0 hb1;have hB0:Below w3.heap.size w3 u1:=(acv.drew.alloc acu _).trans hb1;refine bV hK (EL.o _ hB0) fun hS=> ?_;clear hK K;refine bU 14 fun K hK=> ?_;go_simp;refine bV hK (EL.o _ (hB0.alloc hB0.size _)) fun hS=> ?_;clear hK K;rw[Nat.zero_add]at hown0;have hown1:=own_below hown0 (acv.alloc acu (.cells (newC (i:Int) kind kb).toArray 39));have hrow:=lH (w:=u1) (newC (i:Int) kind kb) 39 (by simp[newC,maxLen]);have hB1:Below w3.heap.size w3 (u1.alloc (.cells (newC (i:Int) kind kb).toArray 39)):=hB0.alloc hB0.size _;refine bU 15 fun K hK=> ?_;refine au (by rfl) (.tmp 80) (.tmp 86) 110 (by rfl) w3.heap.size 39 _ _ 6 48 Tryz.underlying110 kQ.o.1 kQ.o.2.1 kQ.o.2.2.1 kQ.o.2.2.2 rfl (by omega) _ _ _ (by rfl) hown1 _ 1 _ (newC (i:Int) kind kb) (by rfl) hrow (D8 _ _ _) (by unfold maxLen;omega) (by omega) hB1.size ?_;intro A2 c2 u2 hown2 hb2;have hB2:Below w3.heap.size w3 u2:=hB1.trans hb2;refine bV hK (EL.o _ hB2) fun hS=> ?_;clear hK K;refine bU 22 fun K hK=> ?_;refine au (by rfl) (.tmp 87) (.tmp 93) 110 (by rfl) w3.heap.size 39 _ _ 6 48 Tryz.underlying110 kQ.o.1 kQ.o.2.1 kQ.o.2.2.1 kQ.o.2.2.2 rfl (by omega) _ _ _ (by rfl) hown2 _ (n-k) _ ((T.drop k).flatMap dM) (by rfl) (qw.o _ hB2).2 (g_ _) (by unfold maxLen;omega) (by omega) hB2.size ?_;intro A3 c3 u3 hown3 hb3;have vM:Below w3.heap.size w3 u3:=hB2.trans hb3;refine bV hK (EL.o _ vM) fun hS=> ?_;clear hK K;refine aC 23 hS ?_;refine aC 24 hS ?_;refine bU 25 fun K hK=> ?_;go_simp;refine nk hK ?_;clear hS hK K;go_wp2_with fail
             all_goals (
              go_meet
              exact xZ hrw Ab.o vM HFC.o jY.o hkn (by omega) (by simp) hown3 (by unfold maxLen;omega))
            case wab=>
             go_simp;refine bV hK (EL.o _ ((acv.drew.alloc acu _).alloc (by simp<;>omega) _)) fun hS=> ?_;clear hK K;refine bU 8 fun K hK=> ?_;refine eZ (by rfl) (.tmp 73) (.tmp 79) 110 (by rfl) w3.heap.size 39 _ _ 6 48 Tryz.underlying110 kQ.o.1 kQ.o.2.1 kQ.o.2.2.1 kQ.o.2.2.2 rfl (by omega) _ 0 [] (by rfl) (fT (jm w3 _ _).1 acu) _ k _ ((T.take k).flatMap dM) (by rfl) (qw.o _ ((acv.drew.alloc acu _).alloc (by simp<;>omega) _)).1 (g_ _) (by unfold maxLen;omega) (by omega) (by simp<;>omega) ?_;intro A1 c1 u1 hown1 hb1 hg1;have hB1:Below w3.heap.size w3 u1:=((acv.drew.alloc acu _).alloc (by simp<;>omega) _).trans hb1;have hrow:=(ng (vs:=(newC (i:Int) kind kb)) (jm w3 (.cells #[] 39) (.cells (newC (i:Int) kind kb).toArray 39)).2 (by simp[newC,maxLen])).grown hg1 (fun b hb hbw=>by subst hb;simp[Value.ownBlock]);refine bV hK (EL.o _ hB1) fun hS=> ?_;clear hK K;refine bU 15 fun K hK=> ?_;refine au (by rfl) (.tmp 80) (.tmp 86) 110 (by rfl) w3.heap.size 39 _ _ 6 48 Tryz.underlying110 kQ.o.1 kQ.o.2.1 kQ.o.2.2.1 kQ.o.2.2.2 rfl (by omega) _ _ _ (by rfl) hown1 _ 1 _ (newC (i:Int) kind kb) (by rfl) hrow (D8 _ _ _) (by unfold maxLen;omega) (by omega) hB1.size ?_;intro A2 c2 u2 hown2 hb2;have hB2:Below w3.heap.size w3 u2:=hB1.trans hb2;refine bV hK (EL.o _ hB2) fun hS=> ?_;clear hK K;refine bU 22 fun K hK=> ?_;refine au (by rfl) (.tmp 87) (.tmp 93) 110 (by rfl) w3.heap.size 39 _ _ 6 48 Tryz.underlying110 kQ.o.1 kQ.o.2.1 kQ.o.2.2.1 kQ.o.2.2.2 rfl (by omega) _ _ _ (by rfl) hown2 _ (n-k) _ ((T.drop k).flatMap dM) (by rfl) (qw.o _ hB2).2 (g_ _) (by unfold maxLen;omega) (by omega) hB2.size ?_;intro A3 c3 u3 hown3 hb3;have vM:Below w3.heap.size w3 u3:=hB2.trans hb3;refine bV hK (EL.o _ vM) fun hS=> ?_;clear hK K;refine aC 23 hS ?_;refine aC 24 hS ?_;refine bU 25 fun K hK=> ?_;go_simp;refine nk hK ?_;clear hS hK K;go_wp2_with fail
             all_goals (
              go_meet
              exact xZ hrw Ab.o vM HFC.o jY.o hkn (by omega) (by simp) hown3 (by unfold maxLen;omega))
           case wb=>
            go_simp;refine bV hK (EL.o _ (acv.drew.alloc acu _)) fun hS=> ?_;clear hK K;refine bU 1 fun K hK=> ?_;go_simp;refine bV hK (EL.o _ ((acv.drew.alloc acu _).alloc (by simp<;>omega) _)) fun hS=> ?_;clear hK K;refine bU 8 fun K hK=> ?_;refine eZ (by rfl) (.tmp 73) (.tmp 79) 110 (by rfl) w3.heap.size 39 _ _ 6 48 Tryz.underlying110 kQ.o.1 kQ.o.2.1 kQ.o.2.2.1 kQ.o.2.2.2 rfl (by omega) _ 0 [] (by rfl) (fT (jm w3 _ _).2 (by omega)) _ k _ ((T.take k).flatMap dM) (by rfl) (qw.o _ ((acv.drew.alloc acu _).alloc (by simp<;>omega) _)).1 (g_ _) (by unfold maxLen;omega) (by omega) (by simp<;>omega) ?_;intro A1 c1 u1 hown1 hb1 hg1;have hB1:Below w3.heap.size w3 u1:=((acv.drew.alloc acu _).alloc (by simp<;>omega) _).trans hb1;have hrow:=(ng (vs:=(newC (i:Int) kind kb)) (jm w3 (.cells (newC (i:Int) kind kb).toArray 39) (.cells #[] 39)).1 (by simp[newC,maxLen])).grown hg1 (fun b hb hbw=>by subst hb;simp[Value.ownBlock]);refine bV hK (EL.o _ hB1) fun hS=> ?_;clear hK K;refine bU 15 fun K hK=> ?_;refine au (by rfl) (.tmp 80) (.tmp 86) 110 (by rfl) w3.heap.size 39 _ _ 6 48 Tryz.underlying110 kQ.o.1 kQ.o.2.1 kQ.o.2.2.1 kQ.o.2.2.2 rfl (by omega) _ _ _ (by rfl) hown1 _ 1 _ (newC (i:Int) kind kb) (by rfl) hrow (D8 _ _ _) (by unfold maxLen;omega) (by omega) hB1.size ?_;intro A2 c2 u2 hown2 hb2;have hB2:Below w3.heap.size w3 u2:=hB1.trans hb2;refine bV hK (EL.o _ hB2) fun hS=> ?_;clear hK K;refine bU 22 fun K hK=> ?_;refine au (by rfl) (.tmp 87) (.tmp 93) 110 (by rfl) w3.heap.size 39 _ _ 6 48 Tryz.underlying110 kQ.o.1 kQ.o.2.1 kQ.o.2.2.1 kQ.o.2.2.2 rfl (by omega) _ _ _ (by rfl) hown2 _ (n-k) _ ((T.drop k).flatMap dM) (by rfl) (qw.o _ hB2).2 (g_ _) (by unfold maxLen;omega) (by omega) hB2.size ?_;intro A3 c3 u3 hown3 hb3;have vM:Below w3.heap.size w3 u3:=hB2.trans hb3;refine bV hK (EL.o _ vM) fun hS=> ?_;clear hK K;refine aC 23 hS ?_;refine aC 24 hS ?_;refine bU 25 fun K hK=> ?_;go_simp;refine nk hK ?_;clear hS hK K;go_wp2_with fail
            all_goals (
             go_meet
             exact xZ hrw Ab.o vM HFC.o jY.o hkn (by omega) (by simp) hown3 (by unfold maxLen;omega))
          case rest=>
           obtain⟨w5,rfl⟩:∃w5:World,w5=wc:=⟨_,rfl⟩;have HM:=acr hcut;obtain⟨hK,-,aM,cM,h5,-,-,-⟩:=hcut;obtain⟨p0,p1,p2,pf⟩:=iU h5;have hs1:=hK.size;have hr1:r<w5.heap.size:=by omega
           have hv1:ah (Off (Grow F w3 w5) r) w5 (some ⟨bD,oD,none⟩) (n*1) vs:=by rw[aaK];exact tO hK HV.o
           have yV:acs (∀w4,Below w5.heap.size w5 w4→w4.cell? ⟨r,1,none⟩=some (.slice (some ⟨bD,oD,none⟩) n cD)∧w4.frozen? ⟨r,1,none⟩=false):=fun w4 hb=>⟨by rw[hb.cell (p:=⟨r,1,none⟩) hr1];exact p1,by rw[hb.frozen (p:=⟨r,1,none⟩) hr1];exact pf 1⟩;have ko:acs (∀w4,Below w5.heap.size w5 w4→ah (Off (Grow F w3 w5) r) w4 (some ⟨bD,oD,none⟩) (k*1) (vs.take k)∧ah (Off (Grow F w3 w5) r) w4 (if cD=k then some ⟨bD,oD,none⟩else some ⟨bD,oD+k,none⟩) ((n-k)*1) (vs.drop k)):=fun w4 hb=>by
            have:=Kc (c:=cD) hv1 hkn hDc hb;rw[aaK]at this;simpa only[aaK]using this
           clear hK h5 p0 p1 p2 pf hv1;go_upto_region 20 with(fail)
           go_cut [] (fun wx=>dS F w3 r (b_ iA (i:Int) (cu kind) T) ((b_ iA (i:Int) (cu kind) T).map fun q=>q.2.b) (aW T) (.tuple #[]) (.returned (.tuple #[])) wx)
           case first=>
            go_wp2;refine wQ 20 ((fun w'=>w'.cell? ⟨r,1,none⟩=some (.slice (some ⟨bD,oD,none⟩) n cD)∧w'.frozen? ⟨r,1,none⟩=false)) ?_ fun hS=> ?_
            ·exact yV.o _ acv.drew
            refine aC 0 hS ?_;refine aC 2 hS ?_;refine aC 3 hS ?_;refine aC 4 hS ?_;refine aC 5 hS ?_;refine aC 6 hS ?_;refine aC 7 hS ?_;refine aC 11 hS ?_;refine aC 12 hS ?_;refine aC 13 hS ?_;refine aC 14 hS ?_;refine aC 15 hS ?_;refine aC 16 hS ?_;refine oI 1 9 (fun K hK=> ?wa) fun K hK=> ?wb
            case wa=>
             go_simp;refine bV hK (yV.o _ (acv.drew.alloc acu _)) fun hS=> ?_;clear hK K;refine oI 8 9 (fun K hK=> ?waa) fun K hK=> ?wab
             case waa=>
              refine au (by rfl) (.tmp 98) (.tmp 104) 46 (by rfl) w5.heap.size 28 _ _ 1 24 Tryz.underlying46 HI1.o.1 HI1.o.2.1 HI1.o.2.2.1 HI1.o.2.2.2 rfl (by omega) _ 0 [] (by rfl) (fT (MapKept.heap_alloc w5.drew _).1 acu) _ k _ (vs.take k) (by rfl) (ko.o _ (acv.drew.alloc acu _)).1 wI.o.1 (by unfold maxLen;omega) (by omega) (by simp<;>omega) ?_;intro A1 c1 u1 hown0 hb1;have hB0:Below w5.heap.size w5 u1:=(acv.drew.alloc acu _).trans hb1;refine bV hK (yV.o _ hB0) fun hS=> ?_;clear hK K;refine bU 9 fun K hK=> ?_;go_simp;refine bV hK (yV.o _ (hB0.alloc hB0.size _)) fun hS=> ?_;clear hK K;rw[Nat.zero_add]at hown0;have hown1:=own_below hown0 (acv.alloc acu (.cells [Value.slice none 0 0].toArray 28));have hrow:=lH (w:=u1) [Value.slice none 0 0] 28 (by simp[newC,maxLen]);have hB1:Below w5.heap.size w5 (u1.alloc (.cells [Value.slice none 0 0].toArray 28)):=hB0.alloc hB0.size _;refine bU 10 fun K hK=> ?_;refine au (by rfl) (.tmp 105) (.tmp 106) 46 (by rfl) w5.heap.size 28 _ _ 1 24 Tryz.underlying46 HI1.o.1 HI1.o.2.1 HI1.o.2.2.1 HI1.o.2.2.2 rfl (by omega) _ _ _ (by rfl) hown1 _ 1 _ [Value.slice none 0 0] (by rfl) hrow (by intro u hu;simp only[List.mem_singleton]at hu;subst hu;rfl) (by unfold maxLen;omega) (by omega) hB1.size ?_;intro A2 c2 u2 hown2 hb2;have hB2:Below w5.heap.size w5 u2:=hB1.trans hb2;refine bV hK (yV.o _ hB2) fun hS=> ?_;clear hK K;refine bU 17 fun K hK=> ?_;refine au (by rfl) (.tmp 107) (.tmp 113) 46 (by rfl) w5.heap.size 28 _ _ 1 24 Tryz.underlying46 HI1.o.1 HI1.o.2.1 HI1.o.2.2.1 HI1.o.2.2.2 rfl (by omega) _ _ _ (by rfl) hown2 _ (n-k) _ (vs.drop k) (by rfl) (ko.o _ hB2).2 wI.o.2 (by unfold maxLen;omega) (by omega) hB2.size ?_;intro A3 c3 u3 hown3 hb3;have vM:Below w5.heap.size w5 u3:=hB2.trans hb3;refine bV hK (yV.o _ vM) fun hS=> ?_;clear hK K;refine aC 18 hS ?_;refine aC 19 hS ?_;refine bU 20 fun K hK=> ?_;go_simp;refine nk hK ?_;clear hS hK K;go_wp2_with fail
              all_goals (
               go_meet
               exact Aw HR3.o Ab.o HM.o vM vC.o hkn ZU.o HVL.o (by omega) (by simp) hown3 (by unfold maxLen;omega))
             case wab=>
              go_simp;refine bV hK (yV.o _ ((acv.drew.alloc acu _).alloc (by simp<;>omega) _)) fun hS=> ?_;clear hK K;refine bU 8 fun K hK=> ?_;refine eZ (by rfl) (.tmp 98) (.tmp 104) 46 (by rfl) w5.heap.size 28 _ _ 1 24 Tryz.underlying46 HI1.o.1 HI1.o.2.1 HI1.o.2.2.1 HI1.o.2.2.2 rfl (by omega) _ 0 [] (by rfl) (fT (jm w5 _ _).1 acu) _ k _ (vs.take k) (by rfl) (ko.o _ ((acv.drew.alloc acu _).alloc (by simp<;>omega) _)).1 wI.o.1 (by unfold maxLen;omega) (by omega) (by simp<;>omega) ?_;intro A1 c1 u1 hown1 hb1 hg1;have hB1:Below w5.heap.size w5 u1:=((acv.drew.alloc acu _).alloc (by simp<;>omega) _).trans hb1;have hrow:=(ng (vs:=[Value.slice none 0 0]) (jm w5 (.cells #[] 28) (.cells [Value.slice none 0 0].toArray 28)).2 (by simp[newC,maxLen])).grown hg1 (fun b hb hbw=>by subst hb;simp[Value.ownBlock]);refine bV hK (yV.o _ hB1) fun hS=> ?_;clear hK K;refine bU 10 fun K hK=> ?_;refine au (by rfl) (.tmp 105) (.tmp 106) 46 (by rfl) w5.heap.size 28 _ _ 1 24 Tryz.underlying46 HI1.o.1 HI1.o.2.1 HI1.o.2.2.1 HI1.o.2.2.2 rfl (by omega) _ _ _ (by rfl) hown1 _ 1 _ [Value.slice none 0 0] (by rfl) hrow (by intro u hu;simp only[List.mem_singleton]at hu;subst hu;rfl) (by unfold maxLen;omega) (by omega) hB1.size ?_;intro A2 c2 u2 hown2 hb2;have hB2:Below w5.heap.size w5 u2:=hB1.trans hb2;refine bV hK (yV.o _ hB2) fun hS=> ?_;clear hK K;refine bU 17 fun K hK=> ?_;refine au (by rfl) (.tmp 107) (.tmp 113) 46 (by rfl) w5.heap.size 28 _ _ 1 24 Tryz.underlying46 HI1.o.1 HI1.o.2.1 HI1.o.2.2.1 HI1.o.2.2.2 rfl (by omega) _ _ _ (by rfl) hown2 _ (n-k) _ (vs.drop k) (by rfl) (ko.o _ hB2).2 wI.o.2 (by unfold maxLen;omega) (by omega) hB2.size ?_;intro A3 c3 u3 hown3 hb3;have vM:Below w5.heap.size w5 u3:=hB2.trans hb3;refine bV hK (yV.o _ vM) fun hS=> ?_;clear hK K;refine aC 18 hS ?_;refine aC 19 hS ?_;refine bU 20 fun K hK=> ?_;go_simp;refine nk hK ?_;clear hS hK K;go_wp2_with fail
              all_goals (
               go_meet
               exact Aw HR3.o Ab.o HM.o vM vC.o hkn ZU.o HVL.o (by omega) (by simp) hown3 (by unfold maxLen;omega))
            case wb=>
             go_simp;refine bV hK (yV.o _ (acv.drew.alloc acu _)) fun hS=> ?_;clear hK K;refine bU 1 fun K hK=> ?_;go_simp;refine bV hK (yV.o _ ((acv.drew.alloc acu _).alloc (by simp<;>omega) _)) fun hS=> ?_;clear hK K;refine bU 8 fun K hK=> ?_;refine eZ (by rfl) (.tmp 98) (.tmp 104) 46 (by rfl) w5.heap.size 28 _ _ 1 24 Tryz.underlying46 HI1.o.1 HI1.o.2.1 HI1.o.2.2.1 HI1.o.2.2.2 rfl (by omega) _ 0 [] (by rfl) (fT (jm w5 _ _).2 (by omega)) _ k _ (vs.take k) (by rfl) (ko.o _ ((acv.drew.alloc acu _).alloc (by simp<;>omega) _)).1 wI.o.1 (by unfold maxLen;omega) (by omega) (by simp<;>omega) ?_;intro A1 c1 u1 hown1 hb1 hg1;have hB1:Below w5.heap.size w5 u1:=((acv.drew.alloc acu _).alloc (by simp<;>omega) _).trans hb1;have hrow:=(ng (vs:=[Value.slice none 0 0]) (jm w5 (.cells [Value.slice none 0 0].toArray 28) (.cells #[] 28)).1 (by simp[newC,maxLen])).grown hg1 (fun b hb hbw=>by subst hb;simp[Value.ownBlock]);refine bV hK (yV.o _ hB1) fun hS=> ?_;clear hK K;refine bU 10 fun K hK=> ?_;refine au (by rfl) (.tmp 105) (.tmp 106) 46 (by rfl) w5.heap.size 28 _ _ 1 24 Tryz.underlying46 HI1.o.1 HI1.o.2.1 HI1.o.2.2.1 HI1.o.2.2.2 rfl (by omega) _ _ _ (by rfl) hown1 _ 1 _ [Value.slice none 0 0] (by rfl) hrow (by intro u hu;simp only[List.mem_singleton]at hu;subst hu;rfl) (by unfold maxLen;omega) (by omega) hB1.size ?_;intro A2 c2 u2 hown2 hb2;have hB2:Below w5.heap.size w5 u2:=hB1.trans hb2;refine bV hK (yV.o _ hB2) fun hS=> ?_;clear hK K;refine bU 17 fun K hK=> ?_;refine au (by rfl) (.tmp 107) (.tmp 113) 46 (by rfl) w5.heap.size 28 _ _ 1 24 Tryz.underlying46 HI1.o.1 HI1.o.2.1 HI1.o.2.2.1 HI1.o.2.2.2 rfl (by omega) _ _ _ (by rfl) hown2 _ (n-k) _ (vs.drop k) (by rfl) (ko.o _ hB2).2 wI.o.2 (by unfold maxLen;omega) (by omega) hB2.size ?_;intro A3 c3 u3 hown3 hb3;have vM:Below w5.heap.size w5 u3:=hB2.trans hb3;refine bV hK (yV.o _ vM) fun hS=> ?_;clear hK K;refine aC 18 hS ?_;refine aC 19 hS ?_;refine bU 20 fun K hK=> ?_;go_simp;refine nk hK ?_;clear hS hK K;go_wp2_with fail
             all_goals (
              go_meet
              exact Aw HR3.o Ab.o HM.o vM vC.o hkn ZU.o HVL.o (by omega) (by simp) hown3 (by unfold maxLen;omega))
           case rest=>
            obtain⟨w6,rfl⟩:∃w6:World,w6=wc:=⟨_,rfl⟩;rw[←JW qW.o]at hcut;have FV:acs (bS F w3 r (b_ iA (i:Int) (cu kind) T) (.tuple #[]) (.returned (.tuple #[])) w6):=hcut;have HAD:=acr (Cy d2 n2 i x2 w6 FV.o.2.2 yD.o HX1.o.1 HX1.o.2);clear hcut;go_wp2_with fail;refine HAD.o.mono ?_;rintro e w7 ht7;have WS:=acr ht7;obtain rfl:=ht7.1;clear ht7;go_wp2_with fail
            go_ret2
            rw[HQ.o];exact(dS.behind HH.o.low HB3.o (FV.o.trans HR3.o.low WS.o)).val _
   ·rw[if_pos h3]at hme;have HQ:=acr (sH hme h3);generalize aH T ls=pl at*;obtain⟨d2,n2,e2⟩:=pl;simp only at h3 HQ H3;have hne:(e2==0)=false:=by simpa using h3
    have hne2:(e2 !=0)=true:=by simpa using h3
    clear h hT hS hE h3 hme h0 hkk hkb X4 hc;cases kb
    all_goals (
     go_enter aco,acd;go_wp2_with fail;refine H1.o.mono ?_;rintro e w1 ⟨rfl,hb1⟩;have HB1:=acr hb1;clear hb1;go_wp2_with fail;refine(H3.o w1 HB1.o).mono ?_;rintro e w3 ⟨rfl,hb3⟩;have HB3:=acr (HB1.o.trans (hb3.mono HB1.o.size));clear hb3;go_wp2_with fail
     go_ret2
     exact bS.UM HH.o HB3.o HQ.o)
  ·have HQ:=acr (sH (v:=30) (T:=T) (p:=ls) (kind:=kind) (by unfold kS;rw[h0,if_neg (by simp),if_pos hkk]) (by omega));have hb1:(kind !=1)=true:=by simp;omega
   have hb2:(kind !=2)=true:=by simp;omega
   clear h hT hS hE h0 hkk hc;go_enter aco,acd;go_wp2_with fail;refine H1.o.mono ?_;rintro e w1 ⟨rfl,hb1⟩;have HB1:=acr hb1;clear hb1;go_wp2_with fail
   go_ret2
   exact bS.UM HH.o HB1.o HQ.o
 ·have HQ:=acr (sH (v:=bH ls) (T:=T) (p:=ls) (kind:=kind) (by unfold kS;rw[if_pos h0]) h0);generalize bH ls=f0 at*;have hne:(f0==0)=false:=by simpa using h0
  have hne2:(f0 !=0)=true:=by simpa using h0
  clear h hT hS hE h0 hc;go_enter aco,acd;go_wp2_with fail;refine H1.o.mono ?_;rintro e w1 ⟨rfl,hb1⟩;have HB1:=acr hb1;clear hb1;go_wp2_with fail
  go_ret2
  exact bS.UM HH.o HB1.o HQ.o
end
end Go.Proofs.YtjnhnlabpccgjaaGreatDoor
