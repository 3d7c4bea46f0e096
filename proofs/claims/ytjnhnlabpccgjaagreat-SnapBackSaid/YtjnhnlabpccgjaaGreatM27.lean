/- The reference: Make. -/
import Derived.Test.YtjnhnlabpccgjaaGreatM26
namespace Go.Proofs.YtjnhnlabpccgjaaGreat
open Go.ChangeShapes Go.WideShapes Go.ChangeAt Go.RowKit
set_option linter.unusedVariables false
set_option linter.unusedSimpArgs false
theorem pq {T:aA} {p:List Nm} {kind v:Int} (h:jw T p kind=v) (hv:v≠0):dK T p kind=((0,v),T):=by
 unfold dK
 rw[h,if_neg hv]
def newC (f kind:Int) (kb:Bool):List Value:=[.int .i64 f, .int .i64 kind, .int .i64 1, .int .i64 0, .int .u64 0, .bool kb]
theorem zT (f kind:Int) (kb:Bool):∀u∈newC f kind kb,u.oneCell'=true:=by
 intro u hu
 simp only[newC,List.mem_cons,List.not_mem_nil,or_false]at hu
 rcases hu with rfl|rfl|rfl|rfl|rfl|rfl<;>rfl
def E8 (T:aA) (f:Int) (w:World) (v:Value) (wx:World):Prop:=
 ∃k:Nat,k≤T.length∧v= .int .i64 k∧(∀x,bM fQ f x T=T.take k++(f,x)::T.drop k)∧w=wx
theorem E8.of {T:aA} {f:Int} {w:World} {k:Nat} (hs:aC fQ T) (hf:aj f T=none) (hk:k≤T.length) (ha:(T.take k).all (fun q=>decide (q.1<f))=true) (hx:∀q,T[k]? =some q→decide (q.1<f)=false):E8 T f w (.int .i64 k) w:=by
 refine⟨k,hk,rfl,fun x=> ?_,rfl⟩
 obtain⟨h1,h2⟩:=tJ ha hx hk
 rw[VA hs x hf,h1,h2]
theorem tQ {w u:World} {r:Nat} {x0 x1 x2:Value} {T T':aA} {f kind:Int} {kb:Bool} {k m n c:Nat} {A:Option Addr} {ys:List Value} (hr:r<w.heap.size) (h1:w.heap[r]? =some (.cells #[x0,x1,x2] 97 (0,0))) (hB:Below w.heap.size w u)
  (hT':T'=T.take k++(f,bL kind)::T.drop k∧kb=decide (kind=2)) (hn:n=T.length) (hk:k≤n) (hmk:m=k) (hys:ys=(T.take k).flatMap b_)
  (hown:u.ownsRow w.heap.size 101 6 (.slice A (m+1+(n-k)) c) (m+1+(n-k)) ((ys++newC f kind kb)++(T.drop k).flatMap b_)) (hm:(m+1+(n-k))*6≤maxLen):
  bQ w r x1 x2 T' (u.setCell ⟨r,0,none⟩ (.slice A (k+1+(n-k)) c)):=by
 subst hmk hys
 obtain⟨hT',hkb⟩:=hT'
 have hlen:T'.length=m+1+(n-m):=by rw[hT'];simp;omega
 obtain⟨-,hcc,-,hrow2⟩:=og (w:=w) hown hm (Nat.le_refl _)
 rw[←hlen]at hcc hrow2⊢
 have e6:T'.flatMap b_=((T.take m).flatMap b_++newC f kind kb)++(T.drop m).flatMap b_:=by
  rw[hT',hkb]
  simp only[List.flatMap_append,List.flatMap_cons,List.append_assoc]
  rfl
 rw[←e6]at hrow2
 exact bQ.XJ hr h1 hB hcc hrow2 (lH hown)
theorem Each.ins {F:Nat→Prop} {w:World} {vs:List Value} {bs:List (List UInt8)} (h:Each F w vs bs) (hl:vs.length=bs.length) (k:Nat) (hk:k≤bs.length):Each F w ((vs.take k++[Value.slice none 0 0])++vs.drop k) (bs.take k++[]::bs.drop k):=by
 intro i b hb
 rw[List.append_assoc]
 by_cases hi:i<k
 ·rw[List.getElem?_append_left (by rw[List.length_take];omega),List.getElem?_take,if_pos hi]at hb⊢
  exact h i b hb
 ·rw[List.getElem?_append_right (by rw[List.length_take];omega),List.length_take]at hb⊢
  rw[hl]
  have e1:min k bs.length=k:=by omega
  rw[e1]at hb⊢
  obtain⟨j,hj⟩:∃j,i-k=j:=⟨_,rfl⟩
  rw[hj]at hb⊢
  cases j with
  |zero=>
   simp only[List.getElem?_cons_zero,Option.some.injEq]at hb
   subst hb
   exact⟨none,0,rfl,⟨Nat.le_refl _,by simp[maxLen]⟩,ah.nil _ _ _⟩
  |succ j=>
   simp only[List.singleton_append,List.getElem?_cons_succ,List.getElem?_drop]at hb⊢
   exact h _ b hb
theorem wB {F:Nat→Prop} {w w1 u:World} {r:Nat} {x0 x1 x2:Value} {T T':aA} {D D':List (List UInt8)} {E:List jm} {k m n c:Nat} {A:Option Addr} {vs ys:List Value} (h:fJ F w r T D E) (h1:w.heap[r]? =some (.cells #[x0,x1,x2] 97 (0,0))) (hm:bQ w r x1 x2 T' w1) (hB:Below w1.heap.size w1 u)
  (hD':D'=D.take k++[]::D.drop k∧D.length=n) (hk:k≤n) (he:Each (Off F r) w vs D) (hvl:vs.length=n) (hmk:m=k) (hys:ys=vs.take k)
  (hown:u.ownsRow w1.heap.size 23 1 (.slice A (m+1+(n-k)) c) (m+1+(n-k)) ((ys++[Value.slice none 0 0])++vs.drop k)) (hmx:(m+1+(n-k))*1≤maxLen):
  dM F w r T' D' E (.tuple #[]) (.returned (.tuple #[])) (u.setCell ⟨r,1,none⟩ (.slice A (k+1+(n-k)) c)):=by
 subst hmk hys
 obtain⟨hD',hDn⟩:=hD'
 have hlen:D'.length=m+1+(n-m):=by rw[hD'];simp;omega
 have hs1:=hm.1.size
 obtain⟨-,hcc,-,hrow2⟩:=og (w:=w) hown hmx hs1
 rw[Nat.mul_one]at hrow2
 rw[←hlen]at hcc hrow2⊢
 have hb2:=hB.size
 refine fJ.Cb h h1 hm hB hcc hrow2 ?_ (.tuple #[])
 rw[hD']
 exact(Each.ins he (by omega) m (by omega)).move (by omega) fun b hb hbw=>⟨⟨.inl hb.1,hb.2⟩,(hB.block b (by omega)).trans (hm.1.block b hbw hb.2)⟩
theorem E9 {F:Nat→Prop} {w w1:World} {b off n c k s:Nat} {vs:List Value} (h:ah F w (some ⟨b,off,none⟩) (n*s) vs) (hk:k≤n) (hcn:n≤c) (hb:Below w.heap.size w w1):
  ah F w1 (some ⟨b,off,none⟩) (k*s) (vs.take (k*s))∧ah F w1 (if c=k then some ⟨b,off,none⟩else some ⟨b,off+k*s,none⟩) ((n-k)*s) (vs.drop (k*s)):=by
 have h1:=h.below hb (Nat.le_refl _)
 have h2:=h1.take (k*s)
 have hks:k*s≤n*s:=Nat.mul_le_mul_right s (by omega)
 rw[Nat.min_eq_right hks]at h2
 have h4:=h1.drop (k*s)
 rw[←Nat.sub_mul]at h4
 refine⟨h2,?_⟩
 by_cases hce:c=k
 ·rw[if_pos hce]
  have hl:=h.length
  have hkn:k=n:=by omega
  exact ah.zero _ _ _ (by rw[show n-k=0 by omega,Nat.zero_mul]) (by rw[hkn];exact List.drop_of_length_le (by omega))
 ·rw[if_neg hce];exact h4
section
variable {F:Nat→Prop} {r:Nat} {T:aA}
theorem eF.OY {w w':World} {v:Int} (h:kW F w r T) (hb:Below w.heap.size w w') {q:(Int×Int)×aA} (hq:q=((0,v),T)):eF F w r q.2 (.tuple #[.int .i64 q.1.1, .int .i64 q.1.2]) (.returned (.tuple #[.int .i64 0, .int .i64 v])) w':=by
 rw[hq]
 exact dM.same h hb
set_option maxRecDepth 100000 in
set_option maxHeartbeats 16000000 in
theorem Lf {S:Nat→Prop} (a:Option Addr) (n0 c0:Nat) (ls:List Nm) (kind:Int) (w:World) (h:kW F w r T) (hT:eH T) (hS:bB S w a n0 (ls.map strOf)) (hc:n0≤c0) (pO:n0≤1000000):
  Calls Tryz.prog 28 #[ptr r, .slice a n0 c0, .int .i64 kind] w (eF F w r (dK T ls kind).2 (.tuple #[.int .i64 (dK T ls kind).1.1, .int .i64 (dK T ls kind).1.2])):=by
 have hE:(aS T).length≤1000000:=by have:=nG hT;omega
 have H1:=Lib.hid (zJ a n0 c0 ls w hS)
 have H3:=Lib.hid (fun w1 (hb:Below w.heap.size w w1)=>zN a n0 c0 ls w1 (h.below hb (Nat.le_refl _)) hT hE (hS.below hb (Nat.le_refl _)) hc pO)
 have H5:=Lib.hid (fun w1 (hb:Below w.heap.size w w1) d nm=>pX d nm w1 (h.below hb (Nat.le_refl _)) hE)
 have HH:=Lib.hid h
 have HT:=Lib.hid hT
 have hr0:=h.low r h.own
 by_cases h0:dA ls=0
 ·rw[h0]at H1
  by_cases hkk:kind=1∨kind=2
  ·obtain⟨kb,hkb⟩:∃kb:Bool,(kind==2)=kb:=⟨_,rfl⟩
   have Bg:(kind !=1&&kind !=2)=false:=by rcases hkk with rfl|rfl<;>rfl
   have hme:jw T ls kind=if (aV T ls).2.2≠0 then(aV T ls).2.2 else if (aj (aV T ls).2.1 (aY T (aV T ls).1)).isSome then 21 else if 64≤T.length then 4 else 0:=by
    unfold jw
    rw[h0,if_neg (by simp),if_neg (fun hh=>hh hkk)]
   have hb1:(kind !=1)=kb:=by rw[←hkb];rcases hkk with rfl|rfl<;>rfl
   have hb2:(kind !=2)= !kb:=by rw[←hkb];rfl
   have HKB:Hid (kb=decide (kind=2)):=by
    show kb=decide (kind=2)
    rw[←hkb]
    rcases hkk with rfl|rfl<;>rfl
   by_cases h3:(aV T ls).2.2=0
   ·have hpl:aV T ls=((aV T ls).1,(aV T ls).2.1,0):=Prod.ext rfl (Prod.ext rfl h3)
    obtain⟨x2,hx2,VJ,-⟩:=nV hT h3
    rw[if_neg (by rw[h3];simp)]at hme
    obtain⟨d2,hd2⟩:∃d2,d2=(aV T ls).1:=⟨_,rfl⟩
    obtain⟨n2,hn2⟩:∃n2,n2=(aV T ls).2.1:=⟨_,rfl⟩
    rw[←hd2,←hn2]at hpl hme
    rw[←hd2]at hx2
    rw[hpl]at H3
    simp only at H3
    rw[gq hx2]at hme
    have QJ:=Lib.hid (fun w1 hb=>H5.out w1 hb d2 n2)
    clear h3 hd2 hn2
    cases hn:aj n2 x2.names with
    |some j=>
     obtain⟨m,hm1,hm2⟩:=ET hT.tosJ hx2 hn
     rw[hm1]at QJ
     rw[hn]at hme
     have m0:¬(m:Int)<0:=by omega
     have m1:(0:Int)≤m:=by omega
     have HQ:=Lib.hid (pq (hme.trans (if_pos rfl)) (by omega))
     clear h hT hS hE H5 hpl hx2 VJ hme hn hm1 hm2 h0 hkk hkb Bg hc
     cases kb
     all_goals (
      go_enter Tryz.func28,Tryz.ntmps28
      go_wp2_with fail
      (with_reducible refine H1.out.mono ?_)
      rintro e w1 ⟨rfl,hb1⟩
      have HB1:=Lib.hid hb1
      clear hb1
      go_wp2_with fail
      (with_reducible refine(H3.out w1 HB1.out).mono ?_)
      rintro e w3 ⟨rfl,hb3⟩
      have HB3:=Lib.hid (HB1.out.trans (hb3.mono HB1.out.size))
      clear hb3
      go_wp2_with fail
      (with_reducible refine(QJ.out w3 HB3.out).mono ?_)
      rintro e w4 ⟨rfl,rfl⟩
      go_wp2_with fail
      go_ret2
      exact eF.OY HH.out HB3.out HQ.out)
    |none=>
     rw[ES hT.sorted hx2 hn]at QJ
     rw[hn]at hme
     rw[if_neg (by simp)]at hme
     by_cases h64:64≤T.length
     ·have HQ:=Lib.hid (pq (hme.trans (if_pos h64)) (by omega))
      obtain⟨tl,htl⟩:∃tl,tl=T.length:=⟨_,rfl⟩
      have Bb:=Lib.hid htl
      have UY:decide (64≤tl)=true:=by rw[htl];simpa using h64
      have Y6:decide ((64:Int)≤(tl:Int))=true:=by rw[htl];simp;omega
      clear h hT hS hE H5 hpl hx2 VJ hme hn h0 hkk hkb Bg hc h64 htl
      cases kb
      all_goals (
       go_enter Tryz.func28,Tryz.ntmps28
       go_wp2_with fail
       (with_reducible refine H1.out.mono ?_)
       rintro e w1 ⟨rfl,hb1⟩
       have HB1:=Lib.hid hb1
       clear hb1
       go_wp2_with fail
       (with_reducible refine(H3.out w1 HB1.out).mono ?_)
       rintro e w3 ⟨rfl,hb3⟩
       have HB3:=Lib.hid (HB1.out.trans (hb3.mono HB1.out.size))
       clear hb3
       go_wp2_with fail
       (with_reducible refine(QJ.out w3 HB3.out).mono ?_)
       rintro e w4 ⟨rfl,rfl⟩
       obtain⟨aZ,cZ,z0,-⟩:=(HH.out.below HB3.out (Nat.le_refl _)).nodes
       rw[←Bb.out]at z0
       have hr3:r<w3.heap.size:=by have:=HB3.out.size;omega
       go_wp2_with fail
       go_ret2
       exact eF.OY HH.out HB3.out HQ.out)
     ·rw[if_neg h64]at hme
      obtain⟨f,hf0,hf1,hf2,hfn,hfs⟩:=hT.free
      have HQ:Hid (dK T ls kind=(((f:Int),0),setName (bM fQ (f:Int) (bL kind) T) d2 n2 f)):=by
       show dK T ls kind=_
       unfold dK qV
       rw[hme,if_pos rfl,hpl,hf0]
      have UW:=Lib.hid (yA.of hT)
      have hdf:d2≠(f:Int):=fun e=>by rw[e,hfn]at hx2;cases hx2
      have Vo:Hid (aj d2 (bM fQ (f:Int) (bL kind) T)=some x2∧aj n2 x2.names=none):=⟨by rw[dL,if_neg hdf];exact hx2,hn⟩
      have Df:Hid (yA (bM fQ (f:Int) (bL kind) T)):=by
       refine⟨hT.sorted.bM bH _ _,fun q hq=> ?_,by rw[wP _ hfn];omega,by rw[EU hfn];have:=nG hT;omega⟩
       unfold bM at hq
       rw[jg hfn]at hq
       rcases (mY fQ).1 hq with rfl|h2
       ·simp[bL,aC]
       ·exact(yA.of hT).names q h2
      have rV:=Lib.hid hfn
      have HFS:=Lib.hid hfs
      have Y7:T.length<64:=by omega
      obtain⟨n,hne⟩:∃n,n=T.length:=⟨_,rfl⟩
      have iM:=Lib.hid hne
      rw[←hne]at Y7 hf2
      have UY:decide (64≤n)=false:=by simp;omega
      have Y6:decide ((64:Int)≤(n:Int))=false:=by simp;omega
      have HKBE:=Lib.hid hkb
      have HFV:=Lib.hid (by rfl:(f:Int)=(f:Int))
      clear h hT hS hE H5 hpl hx2 VJ hme hn h0 hkk Bg hc h64 hf0 hfn hfs hne hdf
      go_enter Tryz.func28,Tryz.ntmps28
      go_wp2_with fail
      (with_reducible refine H1.out.mono ?_)
      rintro e w1 ⟨rfl,hb1⟩
      have HB1:=Lib.hid hb1
      clear hb1
      go_upto_region 4 with(fail)
      go_cut [23] (fun v wx=>v= .bool false∧w1=wx)
      case first=>
       cases kb
       all_goals (
        go_wp2_with fail
        go_meet
        exact⟨rfl,rfl⟩)
      case rest=>
       obtain⟨rfl,rfl⟩:=hcut
       go_wp2_with fail
       (with_reducible refine(H3.out w1 HB1.out).mono ?_)
       rintro e w3 ⟨rfl,hb3⟩
       have HB3:=Lib.hid (HB1.out.trans (hb3.mono HB1.out.size))
       clear hb3
       go_wp2_with fail
       (with_reducible refine(QJ.out w3 HB3.out).mono ?_)
       rintro e w4 ⟨rfl,rfl⟩
       have tO:=HH.out.below HB3.out (Nat.le_refl _)
       have HAT:=Lib.hid (fun i=>uN i w3 tO (by have:=iM.out;omega))
       obtain⟨aN,cN,aD,cD,aE,cE,h1,h2,h3,h4,h8,h9,h10,h11⟩:=tO.head
       obtain⟨p0,p1,p2,pf⟩:=h_ h1
       rw[←iM.out]at p0
       have hrw:r<w3.heap.size:=tO.low r tO.own
       have HR3:=Lib.hid tO
       have xZ:=Lib.hid h1
       have XK:=Lib.hid h8
       have U3:=Lib.hid h9
       have hNc:n≤cN:=by have:=iM.out;omega
       have hDc:n≤cD:=by have:=iM.out;rw[List.length_map]at h3;omega
       have hfr0:=pf 0
       clear tO h1 h2 h3 h4 h8 h9 h10 h11 p1 p2 pf
       go_wp2_with fail
       go_loop [11] (fun v=>∃i:Nat,1≤i∧i≤f∧v= .int .i64 i) (fun v=>f-(intOf v).toNat)
       case atStart=>exact⟨1,by omega,hf1,rfl⟩
       case round=>
        obtain⟨i,hi1,hi2,rfl⟩:=hrel
        have HA:=Lib.hid (HAT.out (i:Int))
        by_cases hlt:i<f
        ·obtain⟨y,hy⟩:=Option.isSome_iff_exists.1 (HFS.out i hi1 hlt)
         obtain⟨k,hk,-⟩:=lU HT.out.sorted hy
         rw[hk]at HA
         have m0:¬(k:Int)<0:=by omega
         have m1:(0:Int)≤k:=by omega
         clear hy hk
         go_wp2_with fail
         (with_reducible refine HA.out.mono ?_)
         rintro e w4 ⟨rfl,rfl⟩
         go_wp2_with fail
         go_round
         case rel=>exact⟨i+1,by omega,by omega,by go_num⟩
         case measure=>simp[intOf];omega
        ·obtain rfl:i=f:=by omega
         rw[zH rV.out]at HA
         clear hlt hi1 hi2
         go_wp2_with fail
         (with_reducible refine HA.out.mono ?_)
         rintro e w4 ⟨rfl,rfl⟩
         go_upto_block 2 with(fail)
         go_cut [12]from 51 to 71 (fun v wx=>E8 T i w3 v wx)
         case first=>
          go_wp2_with fail
          go_loop [12] (fun v=>∃k:Nat,k≤n∧v= .int .i64 k∧(T.take k).all (fun q=>decide (q.1<(i:Int)))=true) (fun v=>n-(intOf v).toNat)
          case atStart=>exact⟨0,by omega,rfl,by simp⟩
          case round=>
           obtain⟨k,hk,rfl,hall⟩:=hrel
           have zG:=Lib.hid hall
           clear hall
           by_cases hlt:k<n
           ·have hx:T[k]? =some (T[k]'(by have:=iM.out;omega)):=List.getElem?_eq_getElem _
            obtain⟨q,hq⟩:∃q,q=T[k]'(by have:=iM.out;omega):=⟨_,rfl⟩
            rw[←hq]at hx
            have HXQ:=Lib.hid hx
            obtain⟨b,off,rfl,hF,hb,hi,hcc⟩:=XK.out.wide fB rfl hx (by omega)
            have q0:w3.cell? ⟨b,off+k*6,none⟩=some (.int .i64 q.1):=hcc 0 (by omega)
            clear hx hq hcc
            have i0:(0:Int)≤k:=by omega
            have i1:(k:Int)<n:=by omega
            by_cases hp:q.1<(i:Int)
            ·have e1:decide (q.1<(i:Int))=true:=by simpa using hp
             have HST:=Lib.hid (sQ zG.out HXQ.out e1)
             clear hp
             go_wp2
             go_round
             case rel=>exact⟨k+1,by omega,by go_num,HST.out⟩
             case measure=>simp[intOf];omega
            ·have e1:decide (q.1<(i:Int))=false:=by simpa using hp
             have HMK:=Lib.hid (E8.of (w:=w3) HT.out.sorted rV.out (by have:=iM.out;omega) zG.out (fun x hx=>by have:=HXQ.out;rw[this]at hx;cases hx;exact e1))
             clear hp
             go_wp2
             go_meet
             exact HMK.out
           ·have HMK:=Lib.hid (E8.of (w:=w3) (k:=k) HT.out.sorted rV.out (by have:=iM.out;omega) zG.out (fun x hx=>by
             have:=iM.out
             rw[List.getElem?_eq_none (by omega)]at hx
             cases hx))
            go_wp2
            go_meet
            exact HMK.out
         case rest=>
          obtain⟨k,hk,rfl,hput,rfl⟩:=hcut
          have hkn:k≤n:=by have:=iM.out;omega
          have hn1:0<n:=by
           obtain⟨z,hz⟩:=Option.isSome_iff_exists.1 (iG HT.out.w)
           have:=List.length_pos_of_mem (bC hz)
           have:=iM.out
           omega
          have h1:=xZ.out
          rw[List.length_map,←iM.out]at h1
          have h8:=XK.out
          rw[←iM.out]at h8
          obtain⟨bN,oN,rfl,-,-,-⟩:=h8.at_ (by omega)
          obtain⟨vs,hv,E_⟩:=U3.out
          rw[List.length_map,←iM.out]at hv
          obtain⟨bD,oD,rfl,-,-,-⟩:=hv.at_ (by omega)
          have hlv:=hv.length
          replace xZ:=Lib.hid h1
          obtain⟨p0,p1,p2,pf⟩:=h_ h1
          have wX:Hid (∀w4,Below w3.heap.size w3 w4→w4.cell? ⟨r,0,none⟩=some (.slice (some ⟨bN,oN,none⟩) n cN)∧w4.frozen? ⟨r,0,none⟩=false):=fun w4 hb=>⟨by rw[hb.cell (p:=⟨r,0,none⟩) hrw];exact p0,by rw[hb.frozen (p:=⟨r,0,none⟩) hrw];exact pf 0⟩
          have OU:Hid (∀w4,Below w3.heap.size w3 w4→ah (Off F r) w4 (some ⟨bN,oN,none⟩) (k*6) ((T.take k).flatMap b_)∧ah (Off F r) w4 (if cN=k then some ⟨bN,oN,none⟩else some ⟨bN,oN+k*6,none⟩) ((n-k)*6) ((T.drop k).flatMap b_)):=fun w4 hb=>by
           have:=E9 (c:=cN) h8 hkn hNc hb
           rwa [nH b_ 6 fB,nI b_ 6 fB]at this
          obtain⟨i6,a6,b6,s6,d6⟩:=info_parts nodeInfo
          have jK:=Lib.hid (And.intro a6 (And.intro b6 (And.intro s6 d6)))
          obtain⟨i1,a1,b1,s1,d1⟩:=info_parts uO
          have HI1:=Lib.hid (And.intro a1 (And.intro b1 (And.intro s1 d1)))
          have HV:=Lib.hid hv
          have Y8:=Lib.hid hlv
          have Uv:Hid (Each (Off F r) w3 vs (T.map fun q=>q.2.b)):=E_
          have rD:=Lib.hid (And.intro (fun u hu=>Each.one (F:=Off F r) (w:=w3) Uv.out (by rw[List.length_map,←iM.out];exact hlv) u (List.mem_of_mem_take hu):∀u∈vs.take k,u.oneCell'=true) (fun u hu=>Each.one (F:=Off F r) (w:=w3) Uv.out (by rw[List.length_map,←iM.out];exact hlv) u (List.mem_of_mem_drop hu):∀u∈vs.drop k,u.oneCell'=true))
          have Jg:Hid ((bM fQ (i:Int) (bL kind) T).map (fun q=>q.2.b)=(T.map fun q=>q.2.b).take k++[]::(T.map fun q=>q.2.b).drop k∧(T.map fun q=>q.2.b).length=n):=by
           refine⟨?_,by rw[List.length_map];exact iM.out.symm⟩
           rw[hput,List.map_append,List.map_cons,List.map_take,List.map_drop]
           rfl
          have HFC:Hid (bM fQ (i:Int) (bL kind) T=T.take k++((i:Int),bL kind)::T.drop k∧kb=decide (kind=2)):=⟨hput _,HKB.out⟩
          have i0:(0:Int)≤k:=by omega
          have i1':(k:Int)≤cN:=by omega
          have i2:(k:Int)≤n:=by omega
          have i4:(n:Int)≤cN:=by omega
          have i5:(k:Int)≤cD:=by omega
          have i6':(n:Int)≤cD:=by omega
          clear a6 b6 s6 d6 a1 b1 s1 d1 h1 h8 hv E_ hlv p0 p1 p2 pf hput hk
          go_upto_region 19 with(fail)
          go_cut [] (fun wx=>bQ w3 r (.slice (some ⟨bD,oD,none⟩) n cD) (.slice aE (aS T).length cE) (bM fQ (i:Int) (bL kind) T) wx)
          case first=>
           go_wp2
           refine qF 25 ((fun w'=>w'.cell? ⟨r,0,none⟩=some (.slice (some ⟨bN,oN,none⟩) n cN)∧w'.frozen? ⟨r,0,none⟩=false)) ?_ fun hS=> ?_
           ·exact wX.out _ (Below.refl _ _).drew
           refine ak 0 hS ?_
           refine ak 2 hS ?_
           refine ak 3 hS ?_
           refine ak 4 hS ?_
           refine ak 5 hS ?_
           refine ak 6 hS ?_
           refine ak 7 hS ?_
           refine ak 9 hS ?_
           refine ak 10 hS ?_
           refine ak 11 hS ?_
           refine ak 12 hS ?_
           refine ak 13 hS ?_
           refine ak 16 hS ?_
           refine ak 17 hS ?_
           refine ak 18 hS ?_
           refine ak 19 hS ?_
           refine ak 20 hS ?_
           refine ak 21 hS ?_
           refine qN 1 14 (fun K hK=> ?wa) fun K hK=> ?wb
           case wa=>
            go_simp
            refine bR hK (wX.out _ ((Below.refl _ _).drew.alloc (Nat.le_refl _) _)) fun hS=> ?_
            clear hK K
            refine qN 8 14 (fun K hK=> ?VD) fun K hK=> ?VE
            case VD=>
             refine au (by rfl) (.tmp 73) (.tmp 79) 94 (by rfl) w3.heap.size 101 _ _ 6 48 Tryz.underlying94 jK.out.1 jK.out.2.1 jK.out.2.2.1 jK.out.2.2.2 rfl (by omega) _ 0 [] (by rfl) (eY (MapKept.heap_alloc w3.drew _).1 (Nat.le_refl _)) _ k _ ((T.take k).flatMap b_) (by rfl) (OU.out _ ((Below.refl _ _).drew.alloc (Nat.le_refl _) _)).1 (gu _) (by unfold maxLen;omega) (by omega) (by simp<;>omega) ?_
             intro A1 c1 u1 hown0 hb1
             have hB0:Below w3.heap.size w3 u1:=((Below.refl _ _).drew.alloc (Nat.le_refl _) _).trans hb1
             refine bR hK (wX.out _ hB0) fun hS=> ?_
             clear hK K
             refine bK 14 fun K hK=> ?_
             go_simp
             refine bR hK (wX.out _ (hB0.alloc hB0.size _)) fun hS=> ?_
             clear hK K
             rw[Nat.zero_add]at hown0
             have hown1:=own_below hown0 ((Below.refl _ _).alloc (Nat.le_refl _) (.cells (newC (i:Int) kind kb).toArray 101))
             have hrow:=gH (w:=u1) (newC (i:Int) kind kb) 101 (by simp[newC,maxLen])
             have hB1:Below w3.heap.size w3 (u1.alloc (.cells (newC (i:Int) kind kb).toArray 101)):=hB0.alloc hB0.size _
             refine bK 15 fun K hK=> ?_
             refine au (by rfl) (.tmp 80) (.tmp 86) 94 (by rfl) w3.heap.size 101 _ _ 6 48 Tryz.underlying94 jK.out.1 jK.out.2.1 jK.out.2.2.1 jK.out.2.2.2 rfl (by omega) _ _ _ (by rfl) hown1 _ 1 _ (newC (i:Int) kind kb) (by rfl) hrow (zT _ _ _) (by unfold maxLen;omega) (by omega) hB1.size ?_
             intro A2 c2 u2 hown2 hb2
             have hB2:Below w3.heap.size w3 u2:=hB1.trans hb2
             refine bR hK (wX.out _ hB2) fun hS=> ?_
             clear hK K
             refine bK 22 fun K hK=> ?_
             refine au (by rfl) (.tmp 87) (.tmp 93) 94 (by rfl) w3.heap.size 101 _ _ 6 48 Tryz.underlying94 jK.out.1 jK.out.2.1 jK.out.2.2.1 jK.out.2.2.2 rfl (by omega) _ _ _ (by rfl) hown2 _ (n-k) _ ((T.drop k).flatMap b_) (by rfl) (OU.out _ hB2).2 (gu _) (by unfold maxLen;omega) (by omega) hB2.size ?_
             intro A3 c3 u3 hown3 hb3
             have rG:Below w3.heap.size w3 u3:=hB2.trans hb3
             refine bR hK (wX.out _ rG) fun hS=> ?_
             clear hK K
             refine ak 23 hS ?_
             refine ak 24 hS ?_
             refine bK 25 fun K hK=> ?_
             go_simp
             refine j_ hK ?_
             clear hS hK K
             go_wp2_with fail
             all_goals (
              go_meet
              exact tQ hrw xZ.out rG HFC.out iM.out hkn (by omega) (by simp) hown3 (by unfold maxLen;omega))
            case VE=>
             go_simp
             refine bR hK (wX.out _ (((Below.refl _ _).drew.alloc (Nat.le_refl _) _).alloc (by simp<;>omega) _)) fun hS=> ?_
             clear hK K
             refine bK 8 fun K hK=> ?_
             refine dQ (by rfl) (.tmp 73) (.tmp 79) 94 (by rfl) w3.heap.size 101 _ _ 6 48 Tryz.underlying94 jK.out.1 jK.out.2.1 jK.out.2.2.1 jK.out.2.2.2 rfl (by omega) _ 0 [] (by rfl) (eY (gV w3 _ _).1 (Nat.le_refl _)) _ k _ ((T.take k).flatMap b_) (by rfl) (OU.out _ (((Below.refl _ _).drew.alloc (Nat.le_refl _) _).alloc (by simp<;>omega) _)).1 (gu _) (by unfold maxLen;omega) (by omega) (by simp<;>omega) ?_
             intro A1 c1 u1 hown1 hb1 hg1
             have hB1:Below w3.heap.size w3 u1:=(((Below.refl _ _).drew.alloc (Nat.le_refl _) _).alloc (by simp<;>omega) _).trans hb1
             have hrow:=(kS (vs:=(newC (i:Int) kind kb)) (gV w3 (.cells #[] 101) (.cells (newC (i:Int) kind kb).toArray 101)).2 (by simp[newC,maxLen])).grown hg1 (fun b hb hbw=>by subst hb;simp[Value.ownBlock])
             refine bR hK (wX.out _ hB1) fun hS=> ?_
             clear hK K
             refine bK 15 fun K hK=> ?_
             refine au (by rfl) (.tmp 80) (.tmp 86) 94 (by rfl) w3.heap.size 101 _ _ 6 48 Tryz.underlying94 jK.out.1 jK.out.2.1 jK.out.2.2.1 jK.out.2.2.2 rfl (by omega) _ _ _ (by rfl) hown1 _ 1 _ (newC (i:Int) kind kb) (by rfl) hrow (zT _ _ _) (by unfold maxLen;omega) (by omega) hB1.size ?_
             intro A2 c2 u2 hown2 hb2
             have hB2:Below w3.heap.size w3 u2:=hB1.trans hb2
             refine bR hK (wX.out _ hB2) fun hS=> ?_
             clear hK K
             refine bK 22 fun K hK=> ?_
             refine au (by rfl) (.tmp 87) (.tmp 93) 94 (by rfl) w3.heap.size 101 _ _ 6 48 Tryz.underlying94 jK.out.1 jK.out.2.1 jK.out.2.2.1 jK.out.2.2.2 rfl (by omega) _ _ _ (by rfl) hown2 _ (n-k) _ ((T.drop k).flatMap b_) (by rfl) (OU.out _ hB2).2 (gu _) (by unfold maxLen;omega) (by omega) hB2.size ?_
             intro A3 c3 u3 hown3 hb3
             have rG:Below w3.heap.size w3 u3:=hB2.trans hb3
             refine bR hK (wX.out _ rG) fun hS=> ?_
             clear hK K
             refine ak 23 hS ?_
             refine ak 24 hS ?_
             refine bK 25 fun K hK=> ?_
             go_simp
             refine j_ hK ?_
             clear hS hK K
             go_wp2_with fail
             all_goals (
              go_meet
              exact tQ hrw xZ.out rG HFC.out iM.out hkn (by omega) (by simp) hown3 (by unfold maxLen;omega))
           case wb=>
            go_simp
            refine bR hK (wX.out _ ((Below.refl _ _).drew.alloc (Nat.le_refl _) _)) fun hS=> ?_
            clear hK K
            refine bK 1 fun K hK=> ?_
            go_simp
            refine bR hK (wX.out _ (((Below.refl _ _).drew.alloc (Nat.le_refl _) _).alloc (by simp<;>omega) _)) fun hS=> ?_
            clear hK K
            refine bK 8 fun K hK=> ?_
            refine dQ (by rfl) (.tmp 73) (.tmp 79) 94 (by rfl) w3.heap.size 101 _ _ 6 48 Tryz.underlying94 jK.out.1 jK.out.2.1 jK.out.2.2.1 jK.out.2.2.2 rfl (by omega) _ 0 [] (by rfl) (eY (gV w3 _ _).2 (by omega)) _ k _ ((T.take k).flatMap b_) (by rfl) (OU.out _ (((Below.refl _ _).drew.alloc (Nat.le_refl _) _).alloc (by simp<;>omega) _)).1 (gu _) (by unfold maxLen;omega) (by omega) (by simp<;>omega) ?_
            intro A1 c1 u1 hown1 hb1 hg1
            have hB1:Below w3.heap.size w3 u1:=(((Below.refl _ _).drew.alloc (Nat.le_refl _) _).alloc (by simp<;>omega) _).trans hb1
            have hrow:=(kS (vs:=(newC (i:Int) kind kb)) (gV w3 (.cells (newC (i:Int) kind kb).toArray 101) (.cells #[] 101)).1 (by simp[newC,maxLen])).grown hg1 (fun b hb hbw=>by subst hb;simp[Value.ownBlock])
            refine bR hK (wX.out _ hB1) fun hS=> ?_
            clear hK K
            refine bK 15 fun K hK=> ?_
            refine au (by rfl) (.tmp 80) (.tmp 86) 94 (by rfl) w3.heap.size 101 _ _ 6 48 Tryz.underlying94 jK.out.1 jK.out.2.1 jK.out.2.2.1 jK.out.2.2.2 rfl (by omega) _ _ _ (by rfl) hown1 _ 1 _ (newC (i:Int) kind kb) (by rfl) hrow (zT _ _ _) (by unfold maxLen;omega) (by omega) hB1.size ?_
            intro A2 c2 u2 hown2 hb2
            have hB2:Below w3.heap.size w3 u2:=hB1.trans hb2
            refine bR hK (wX.out _ hB2) fun hS=> ?_
            clear hK K
            refine bK 22 fun K hK=> ?_
            refine au (by rfl) (.tmp 87) (.tmp 93) 94 (by rfl) w3.heap.size 101 _ _ 6 48 Tryz.underlying94 jK.out.1 jK.out.2.1 jK.out.2.2.1 jK.out.2.2.2 rfl (by omega) _ _ _ (by rfl) hown2 _ (n-k) _ ((T.drop k).flatMap b_) (by rfl) (OU.out _ hB2).2 (gu _) (by unfold maxLen;omega) (by omega) hB2.size ?_
            intro A3 c3 u3 hown3 hb3
            have rG:Below w3.heap.size w3 u3:=hB2.trans hb3
            refine bR hK (wX.out _ rG) fun hS=> ?_
            clear hK K
            refine ak 23 hS ?_
            refine ak 24 hS ?_
            refine bK 25 fun K hK=> ?_
            go_simp
            refine j_ hK ?_
            clear hS hK K
            go_wp2_with fail
            all_goals (
             go_meet
             exact tQ hrw xZ.out rG HFC.out iM.out hkn (by omega) (by simp) hown3 (by unfold maxLen;omega))
          case rest=>
           obtain⟨w5,rfl⟩:∃w5:World,w5=wc:=⟨_,rfl⟩
           have HM:=Lib.hid hcut
           obtain⟨hK,-,aM,cM,h5,-,-,-⟩:=hcut
           obtain⟨p0,p1,p2,pf⟩:=h_ h5
           have hs1:=hK.size
           have hr1:r<w5.heap.size:=by omega
           have hv1:ah (Off (Grow F w3 w5) r) w5 (some ⟨bD,oD,none⟩) (n*1) vs:=by rw[Nat.mul_one];exact pY hK HV.out
           have sF:Hid (∀w4,Below w5.heap.size w5 w4→w4.cell? ⟨r,1,none⟩=some (.slice (some ⟨bD,oD,none⟩) n cD)∧w4.frozen? ⟨r,1,none⟩=false):=fun w4 hb=>⟨by rw[hb.cell (p:=⟨r,1,none⟩) hr1];exact p1,by rw[hb.frozen (p:=⟨r,1,none⟩) hr1];exact pf 1⟩
           have pK:Hid (∀w4,Below w5.heap.size w5 w4→ah (Off (Grow F w3 w5) r) w4 (some ⟨bD,oD,none⟩) (k*1) (vs.take k)∧ah (Off (Grow F w3 w5) r) w4 (if cD=k then some ⟨bD,oD,none⟩else some ⟨bD,oD+k,none⟩) ((n-k)*1) (vs.drop k)):=fun w4 hb=>by
            have:=E9 (c:=cD) hv1 hkn hDc hb
            rw[Nat.mul_one]at this
            simpa only[Nat.mul_one]using this
           clear hK h5 p0 p1 p2 pf hv1
           go_upto_region 20 with(fail)
           go_cut [] (fun wx=>dM F w3 r (bM fQ (i:Int) (bL kind) T) ((bM fQ (i:Int) (bL kind) T).map fun q=>q.2.b) (aS T) (.tuple #[]) (.returned (.tuple #[])) wx)
           case first=>
            go_wp2
            refine qF 20 ((fun w'=>w'.cell? ⟨r,1,none⟩=some (.slice (some ⟨bD,oD,none⟩) n cD)∧w'.frozen? ⟨r,1,none⟩=false)) ?_ fun hS=> ?_
            ·exact sF.out _ (Below.refl _ _).drew
            refine ak 0 hS ?_
            refine ak 2 hS ?_
            refine ak 3 hS ?_
            refine ak 4 hS ?_
            refine ak 5 hS ?_
            refine ak 6 hS ?_
            refine ak 7 hS ?_
            refine ak 11 hS ?_
            refine ak 12 hS ?_
            refine ak 13 hS ?_
            refine ak 14 hS ?_
            refine ak 15 hS ?_
            refine ak 16 hS ?_
            refine qN 1 9 (fun K hK=> ?wa) fun K hK=> ?wb
            case wa=>
             go_simp
             refine bR hK (sF.out _ ((Below.refl _ _).drew.alloc (Nat.le_refl _) _)) fun hS=> ?_
             clear hK K
             refine qN 8 9 (fun K hK=> ?VD) fun K hK=> ?VE
             case VD=>
              refine au (by rfl) (.tmp 98) (.tmp 104) 45 (by rfl) w5.heap.size 23 _ _ 1 24 Tryz.underlying45 HI1.out.1 HI1.out.2.1 HI1.out.2.2.1 HI1.out.2.2.2 rfl (by omega) _ 0 [] (by rfl) (eY (MapKept.heap_alloc w5.drew _).1 (Nat.le_refl _)) _ k _ (vs.take k) (by rfl) (pK.out _ ((Below.refl _ _).drew.alloc (Nat.le_refl _) _)).1 rD.out.1 (by unfold maxLen;omega) (by omega) (by simp<;>omega) ?_
              intro A1 c1 u1 hown0 hb1
              have hB0:Below w5.heap.size w5 u1:=((Below.refl _ _).drew.alloc (Nat.le_refl _) _).trans hb1
              refine bR hK (sF.out _ hB0) fun hS=> ?_
              clear hK K
              refine bK 9 fun K hK=> ?_
              go_simp
              refine bR hK (sF.out _ (hB0.alloc hB0.size _)) fun hS=> ?_
              clear hK K
              rw[Nat.zero_add]at hown0
              have hown1:=own_below hown0 ((Below.refl _ _).alloc (Nat.le_refl _) (.cells [Value.slice none 0 0].toArray 23))
              have hrow:=gH (w:=u1) [Value.slice none 0 0] 23 (by simp[newC,maxLen])
              have hB1:Below w5.heap.size w5 (u1.alloc (.cells [Value.slice none 0 0].toArray 23)):=hB0.alloc hB0.size _
              refine bK 10 fun K hK=> ?_
              refine au (by rfl) (.tmp 105) (.tmp 106) 45 (by rfl) w5.heap.size 23 _ _ 1 24 Tryz.underlying45 HI1.out.1 HI1.out.2.1 HI1.out.2.2.1 HI1.out.2.2.2 rfl (by omega) _ _ _ (by rfl) hown1 _ 1 _ [Value.slice none 0 0] (by rfl) hrow (by intro u hu;simp only[List.mem_singleton]at hu;subst hu;rfl) (by unfold maxLen;omega) (by omega) hB1.size ?_
              intro A2 c2 u2 hown2 hb2
              have hB2:Below w5.heap.size w5 u2:=hB1.trans hb2
              refine bR hK (sF.out _ hB2) fun hS=> ?_
              clear hK K
              refine bK 17 fun K hK=> ?_
              refine au (by rfl) (.tmp 107) (.tmp 113) 45 (by rfl) w5.heap.size 23 _ _ 1 24 Tryz.underlying45 HI1.out.1 HI1.out.2.1 HI1.out.2.2.1 HI1.out.2.2.2 rfl (by omega) _ _ _ (by rfl) hown2 _ (n-k) _ (vs.drop k) (by rfl) (pK.out _ hB2).2 rD.out.2 (by unfold maxLen;omega) (by omega) hB2.size ?_
              intro A3 c3 u3 hown3 hb3
              have rG:Below w5.heap.size w5 u3:=hB2.trans hb3
              refine bR hK (sF.out _ rG) fun hS=> ?_
              clear hK K
              refine ak 18 hS ?_
              refine ak 19 hS ?_
              refine bK 20 fun K hK=> ?_
              go_simp
              refine j_ hK ?_
              clear hS hK K
              go_wp2_with fail
              all_goals (
               go_meet
               exact wB HR3.out xZ.out HM.out rG Jg.out hkn Uv.out Y8.out (by omega) (by simp) hown3 (by unfold maxLen;omega))
             case VE=>
              go_simp
              refine bR hK (sF.out _ (((Below.refl _ _).drew.alloc (Nat.le_refl _) _).alloc (by simp<;>omega) _)) fun hS=> ?_
              clear hK K
              refine bK 8 fun K hK=> ?_
              refine dQ (by rfl) (.tmp 98) (.tmp 104) 45 (by rfl) w5.heap.size 23 _ _ 1 24 Tryz.underlying45 HI1.out.1 HI1.out.2.1 HI1.out.2.2.1 HI1.out.2.2.2 rfl (by omega) _ 0 [] (by rfl) (eY (gV w5 _ _).1 (Nat.le_refl _)) _ k _ (vs.take k) (by rfl) (pK.out _ (((Below.refl _ _).drew.alloc (Nat.le_refl _) _).alloc (by simp<;>omega) _)).1 rD.out.1 (by unfold maxLen;omega) (by omega) (by simp<;>omega) ?_
              intro A1 c1 u1 hown1 hb1 hg1
              have hB1:Below w5.heap.size w5 u1:=(((Below.refl _ _).drew.alloc (Nat.le_refl _) _).alloc (by simp<;>omega) _).trans hb1
              have hrow:=(kS (vs:=[Value.slice none 0 0]) (gV w5 (.cells #[] 23) (.cells [Value.slice none 0 0].toArray 23)).2 (by simp[newC,maxLen])).grown hg1 (fun b hb hbw=>by subst hb;simp[Value.ownBlock])
              refine bR hK (sF.out _ hB1) fun hS=> ?_
              clear hK K
              refine bK 10 fun K hK=> ?_
              refine au (by rfl) (.tmp 105) (.tmp 106) 45 (by rfl) w5.heap.size 23 _ _ 1 24 Tryz.underlying45 HI1.out.1 HI1.out.2.1 HI1.out.2.2.1 HI1.out.2.2.2 rfl (by omega) _ _ _ (by rfl) hown1 _ 1 _ [Value.slice none 0 0] (by rfl) hrow (by intro u hu;simp only[List.mem_singleton]at hu;subst hu;rfl) (by unfold maxLen;omega) (by omega) hB1.size ?_
              intro A2 c2 u2 hown2 hb2
              have hB2:Below w5.heap.size w5 u2:=hB1.trans hb2
              refine bR hK (sF.out _ hB2) fun hS=> ?_
              clear hK K
              refine bK 17 fun K hK=> ?_
              refine au (by rfl) (.tmp 107) (.tmp 113) 45 (by rfl) w5.heap.size 23 _ _ 1 24 Tryz.underlying45 HI1.out.1 HI1.out.2.1 HI1.out.2.2.1 HI1.out.2.2.2 rfl (by omega) _ _ _ (by rfl) hown2 _ (n-k) _ (vs.drop k) (by rfl) (pK.out _ hB2).2 rD.out.2 (by unfold maxLen;omega) (by omega) hB2.size ?_
              intro A3 c3 u3 hown3 hb3
              have rG:Below w5.heap.size w5 u3:=hB2.trans hb3
              refine bR hK (sF.out _ rG) fun hS=> ?_
              clear hK K
              refine ak 18 hS ?_
              refine ak 19 hS ?_
              refine bK 20 fun K hK=> ?_
              go_simp
              refine j_ hK ?_
              clear hS hK K
              go_wp2_with fail
              all_goals (
               go_meet
               exact wB HR3.out xZ.out HM.out rG Jg.out hkn Uv.out Y8.out (by omega) (by simp) hown3 (by unfold maxLen;omega))
            case wb=>
             go_simp
             refine bR hK (sF.out _ ((Below.refl _ _).drew.alloc (Nat.le_refl _) _)) fun hS=> ?_
             clear hK K
             refine bK 1 fun K hK=> ?_
             go_simp
             refine bR hK (sF.out _ (((Below.refl _ _).drew.alloc (Nat.le_refl _) _).alloc (by simp<;>omega) _)) fun hS=> ?_
             clear hK K
             refine bK 8 fun K hK=> ?_
             refine dQ (by rfl) (.tmp 98) (.tmp 104) 45 (by rfl) w5.heap.size 23 _ _ 1 24 Tryz.underlying45 HI1.out.1 HI1.out.2.1 HI1.out.2.2.1 HI1.out.2.2.2 rfl (by omega) _ 0 [] (by rfl) (eY (gV w5 _ _).2 (by omega)) _ k _ (vs.take k) (by rfl) (pK.out _ (((Below.refl _ _).drew.alloc (Nat.le_refl _) _).alloc (by simp<;>omega) _)).1 rD.out.1 (by unfold maxLen;omega) (by omega) (by simp<;>omega) ?_
             intro A1 c1 u1 hown1 hb1 hg1
             have hB1:Below w5.heap.size w5 u1:=(((Below.refl _ _).drew.alloc (Nat.le_refl _) _).alloc (by simp<;>omega) _).trans hb1
             have hrow:=(kS (vs:=[Value.slice none 0 0]) (gV w5 (.cells [Value.slice none 0 0].toArray 23) (.cells #[] 23)).1 (by simp[newC,maxLen])).grown hg1 (fun b hb hbw=>by subst hb;simp[Value.ownBlock])
             refine bR hK (sF.out _ hB1) fun hS=> ?_
             clear hK K
             refine bK 10 fun K hK=> ?_
             refine au (by rfl) (.tmp 105) (.tmp 106) 45 (by rfl) w5.heap.size 23 _ _ 1 24 Tryz.underlying45 HI1.out.1 HI1.out.2.1 HI1.out.2.2.1 HI1.out.2.2.2 rfl (by omega) _ _ _ (by rfl) hown1 _ 1 _ [Value.slice none 0 0] (by rfl) hrow (by intro u hu;simp only[List.mem_singleton]at hu;subst hu;rfl) (by unfold maxLen;omega) (by omega) hB1.size ?_
             intro A2 c2 u2 hown2 hb2
             have hB2:Below w5.heap.size w5 u2:=hB1.trans hb2
             refine bR hK (sF.out _ hB2) fun hS=> ?_
             clear hK K
             refine bK 17 fun K hK=> ?_
             refine au (by rfl) (.tmp 107) (.tmp 113) 45 (by rfl) w5.heap.size 23 _ _ 1 24 Tryz.underlying45 HI1.out.1 HI1.out.2.1 HI1.out.2.2.1 HI1.out.2.2.2 rfl (by omega) _ _ _ (by rfl) hown2 _ (n-k) _ (vs.drop k) (by rfl) (pK.out _ hB2).2 rD.out.2 (by unfold maxLen;omega) (by omega) hB2.size ?_
             intro A3 c3 u3 hown3 hb3
             have rG:Below w5.heap.size w5 u3:=hB2.trans hb3
             refine bR hK (sF.out _ rG) fun hS=> ?_
             clear hK K
             refine ak 18 hS ?_
             refine ak 19 hS ?_
             refine bK 20 fun K hK=> ?_
             go_simp
             refine j_ hK ?_
             clear hS hK K
             go_wp2_with fail
             all_goals (
              go_meet
              exact wB HR3.out xZ.out HM.out rG Jg.out hkn Uv.out Y8.out (by omega) (by simp) hown3 (by unfold maxLen;omega))
           case rest=>
            obtain⟨w6,rfl⟩:∃w6:World,w6=wc:=⟨_,rfl⟩
            rw[←EU rV.out]at hcut
            have F3:Hid (eF F w3 r (bM fQ (i:Int) (bL kind) T) (.tuple #[]) (.returned (.tuple #[])) w6):=hcut
            have HAD:=Lib.hid (RY d2 n2 i x2 w6 F3.out.2.2 Df.out Vo.out.1 Vo.out.2)
            clear hcut
            go_wp2_with fail
            (with_reducible refine HAD.out.mono ?_)
            rintro e w7 VF
            have Y3:=Lib.hid VF
            obtain rfl:=VF.1
            clear VF
            go_wp2_with fail
            go_ret2
            rw[HQ.out]
            exact(dM.behind HH.out.low HB3.out (F3.out.trans HR3.out.low Y3.out)).val _
   ·rw[if_pos h3]at hme
    have HQ:=Lib.hid (pq hme h3)
    generalize aV T ls=pl at*
    obtain⟨d2,n2,e2⟩:=pl
    simp only at h3 HQ H3
    have hne:(e2==0)=false:=by simpa using h3
    have hne2:(e2 !=0)=true:=by simpa using h3
    clear h hT hS hE h3 hme h0 hkk hkb Bg hc
    cases kb
    all_goals (
     go_enter Tryz.func28,Tryz.ntmps28
     go_wp2_with fail
     (with_reducible refine H1.out.mono ?_)
     rintro e w1 ⟨rfl,hb1⟩
     have HB1:=Lib.hid hb1
     clear hb1
     go_wp2_with fail
     (with_reducible refine(H3.out w1 HB1.out).mono ?_)
     rintro e w3 ⟨rfl,hb3⟩
     have HB3:=Lib.hid (HB1.out.trans (hb3.mono HB1.out.size))
     clear hb3
     go_wp2_with fail
     go_ret2
     exact eF.OY HH.out HB3.out HQ.out)
  ·have HQ:=Lib.hid (pq (v:=30) (T:=T) (p:=ls) (kind:=kind) (by unfold jw;rw[h0,if_neg (by simp),if_pos hkk]) (by omega))
   have hb1:(kind !=1)=true:=by simp;omega
   have hb2:(kind !=2)=true:=by simp;omega
   clear h hT hS hE h0 hkk hc
   go_enter Tryz.func28,Tryz.ntmps28
   go_wp2_with fail
   (with_reducible refine H1.out.mono ?_)
   rintro e w1 ⟨rfl,hb1⟩
   have HB1:=Lib.hid hb1
   clear hb1
   go_wp2_with fail
   go_ret2
   exact eF.OY HH.out HB1.out HQ.out
 ·have HQ:=Lib.hid (pq (v:=dA ls) (T:=T) (p:=ls) (kind:=kind) (by unfold jw;rw[if_pos h0]) h0)
  generalize dA ls=f0 at*
  have hne:(f0==0)=false:=by simpa using h0
  have hne2:(f0 !=0)=true:=by simpa using h0
  clear h hT hS hE h0 hc
  go_enter Tryz.func28,Tryz.ntmps28
  go_wp2_with fail
  (with_reducible refine H1.out.mono ?_)
  rintro e w1 ⟨rfl,hb1⟩
  have HB1:=Lib.hid hb1
  clear hb1
  go_wp2_with fail
  go_ret2
  exact eF.OY HH.out HB1.out HQ.out
end
end Go.Proofs.YtjnhnlabpccgjaaGreat
