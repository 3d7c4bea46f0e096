/- The reference: Make. -/
import Derived.Test.YtohpcppeajijnaaGreatM34
namespace Go.Proofs.YtohpcppeajijnaaGreat
open Go.ChangeShapes Go.WideShapes Go.ChangeAt Go.RowKit
set_option linter.unusedVariables false
set_option linter.unusedSimpArgs false
theorem mQ {T:aH} {p:List Nm} {kind v:Int} (h:iH T p kind=v) (hv:v≠0):aL T p kind=((0,v),T):=by
 unfold aL
 rw[h,if_neg hv]
def newC (f kind:Int) (kb:Bool):List Value:=[.int .i64 f, .int .i64 kind, .int .i64 1, .int .i64 0, .int .u64 0, .bool kb]
theorem mR (f kind:Int) (kb:Bool):∀u∈newC f kind kb,u.oneCell'=true:=by
 intro u hu
 simp only[newC,List.mem_cons,List.not_mem_nil,or_false]at hu
 rcases hu with rfl|rfl|rfl|rfl|rfl|rfl<;>rfl
def sW (T:aH) (f:Int) (w:World) (v:Value) (wx:World):Prop:=
 ∃k:Nat,k≤T.length∧v= .int .i64 k∧(∀x,bY iC f x T=T.take k++(f,x)::T.drop k)∧w=wx
theorem sW.of {T:aH} {f:Int} {w:World} {k:Nat} (hs:aP iC T) (hf:aj f T=none) (hk:k≤T.length) (ha:(T.take k).all (fun q=>decide (q.1<f))=true) (hx:∀q,T[k]? =some q→decide (q.1<f)=false):sW T f w (.int .i64 k) w:=by
 refine⟨k,hk,rfl,fun x=> ?_,rfl⟩
 obtain⟨h1,h2⟩:=qc ha hx hk
 rw[Ms hs x hf,h1,h2]
theorem jT {w u:World} {r:Nat} {x0 x1 x2:Value} {T T':aH} {f kind:Int} {kb:Bool} {k m n c:Nat} {A:Option Addr} {ys:List Value} (hr:r<w.heap.size) (h1:w.heap[r]? =some (.cells #[x0,x1,x2] 102 (0,0))) (hB:Below w.heap.size w u)
  (hT':T'=T.take k++(f,bq kind)::T.drop k∧kb=decide (kind=2)) (hn:n=T.length) (hk:k≤n) (hmk:m=k) (hys:ys=(T.take k).flatMap bV)
  (hown:u.ownsRow w.heap.size 98 6 (.slice A (m+1+(n-k)) c) (m+1+(n-k)) ((ys++newC f kind kb)++(T.drop k).flatMap bV)) (hm:(m+1+(n-k))*6≤maxLen):
  bL w r x1 x2 T' (u.setCell ⟨r,0,none⟩ (.slice A (k+1+(n-k)) c)):=by
 subst hmk hys
 obtain⟨hT',hkb⟩:=hT'
 have hlen:T'.length=m+1+(n-m):=by rw[hT'];simp;omega
 obtain⟨-,hcc,-,hrow2⟩:=kP (w:=w) hown hm (Nat.le_refl _)
 rw[←hlen]at hcc hrow2⊢
 have e6:T'.flatMap bV=((T.take m).flatMap bV++newC f kind kb)++(T.drop m).flatMap bV:=by
  rw[hT',hkb]
  simp only[List.flatMap_append,List.flatMap_cons,List.append_assoc]
  rfl
 rw[←e6]at hrow2
 exact bL.Mt hr h1 hB hcc hrow2 (jq hown)
theorem Each.ins {F:Nat→Prop} {w:World} {vs:List Value} {bs:List (List UInt8)} (h:Each F w vs bs) (hl:vs.length=bs.length) (k:Nat) (hk:k≤bs.length):Each F w ((vs.take k++[Value.slice none 0 0])++vs.drop k) (bs.take k++[]::bs.drop k):=by
 intro i b hb
 rw[List.append_assoc]
 by_cases hi:i<k
 ·rw[List.getElem?_append_left (by rw[List.length_take];omega),List.getElem?_take,if_pos hi]at hb⊢
  exact h i b hb
 ·rw[List.getElem?_append_right (by rw[List.length_take];omega),List.length_take]at hb⊢
  rw[hl]
  have e1:min k bs.length=k:=by omega
  rw[e1]at hb⊢
  obtain⟨j,hj⟩:∃j,i-k=j:=⟨_,rfl⟩
  rw[hj]at hb⊢
  cases j with
  |zero=>
   simp only[List.getElem?_cons_zero,Option.some.injEq]at hb
   subst hb
   exact⟨none,0,rfl,⟨Nat.le_refl _,by simp[maxLen]⟩,ak.nil _ _ _⟩
  |succ j=>
   simp only[List.singleton_append,List.getElem?_cons_succ,List.getElem?_drop]at hb⊢
   exact h _ b hb
theorem kW {F:Nat→Prop} {w w1 u:World} {r:Nat} {x0 x1 x2:Value} {T T':aH} {D D':List (List UInt8)} {E:List iF} {k m n c:Nat} {A:Option Addr} {vs ys:List Value} (h:fT F w r T D E) (h1:w.heap[r]? =some (.cells #[x0,x1,x2] 102 (0,0))) (hm:bL w r x1 x2 T' w1) (hB:Below w1.heap.size w1 u)
  (hD':D'=D.take k++[]::D.drop k∧D.length=n) (hk:k≤n) (he:Each (Off F r) w vs D) (hvl:vs.length=n) (hmk:m=k) (hys:ys=vs.take k)
  (hown:u.ownsRow w1.heap.size 39 1 (.slice A (m+1+(n-k)) c) (m+1+(n-k)) ((ys++[Value.slice none 0 0])++vs.drop k)) (hmx:(m+1+(n-k))*1≤maxLen):
  dh F w r T' D' E (.tuple #[]) (.returned (.tuple #[])) (u.setCell ⟨r,1,none⟩ (.slice A (k+1+(n-k)) c)):=by
 subst hmk hys
 obtain⟨hD',hDn⟩:=hD'
 have hlen:D'.length=m+1+(n-m):=by rw[hD'];simp;omega
 have hs1:=hm.1.size
 obtain⟨-,hcc,-,hrow2⟩:=kP (w:=w) hown hmx hs1
 rw[Nat.mul_one]at hrow2
 rw[←hlen]at hcc hrow2⊢
 have hb2:=hB.size
 refine fT.xC h h1 hm hB hcc hrow2 ?_ (.tuple #[])
 rw[hD']
 exact(Each.ins he (by omega) m (by omega)).move (by omega) fun b hb hbw=>⟨⟨.inl hb.1,hb.2⟩,(hB.block b (by omega)).trans (hm.1.block b hbw hb.2)⟩
theorem qY {F:Nat→Prop} {w w1:World} {b off n c k s:Nat} {vs:List Value} (h:ak F w (some ⟨b,off,none⟩) (n*s) vs) (hk:k≤n) (hcn:n≤c) (hb:Below w.heap.size w w1):
  ak F w1 (some ⟨b,off,none⟩) (k*s) (vs.take (k*s))∧ak F w1 (if c=k then some ⟨b,off,none⟩else some ⟨b,off+k*s,none⟩) ((n-k)*s) (vs.drop (k*s)):=by
 have h1:=h.below hb (Nat.le_refl _)
 have h2:=h1.take (k*s)
 have hks:k*s≤n*s:=Nat.mul_le_mul_right s (by omega)
 rw[Nat.min_eq_right hks]at h2
 have h4:=h1.drop (k*s)
 rw[←Nat.sub_mul]at h4
 refine⟨h2,?_⟩
 by_cases hce:c=k
 ·rw[if_pos hce]
  have hl:=h.length
  have hkn:k=n:=by omega
  exact ak.zero _ _ _ (by rw[show n-k=0 by omega,Nat.zero_mul]) (by rw[hkn];exact List.drop_of_length_le (by omega))
 ·rw[if_neg hce];exact h4
section
variable {F:Nat→Prop} {r:Nat} {T:aH}
theorem bA.He {w w':World} {v:Int} (h:gU F w r T) (hb:Below w.heap.size w w') {q:(Int×Int)×aH} (hq:q=((0,v),T)):bA F w r q.2 (.tuple #[.int .i64 q.1.1, .int .i64 q.1.2]) (.returned (.tuple #[.int .i64 0, .int .i64 v])) w':=by
 rw[hq]
 exact dh.same h hb
set_option maxRecDepth 100000 in
set_option maxHeartbeats 16000000 in
theorem Ez {S:Nat→Prop} (a:Option Addr) (n0 c0:Nat) (ls:List Nm) (kind:Int) (w:World) (h:gU F w r T) (hT:dA T) (hS:aG S w a n0 (ls.map strOf)) (hc:n0≤c0) (jd:n0≤1000000):
  Calls Tryz.prog 13 #[ptr r, .slice a n0 c0, .int .i64 kind] w (bA F w r (aL T ls kind).2 (.tuple #[.int .i64 (aL T ls kind).1.1, .int .i64 (aL T ls kind).1.2])):=by
 have hE:(aU T).length≤1000000:=by have:=gZ hT;omega
 have H1:=Lib.hid (nk a n0 c0 ls w hS)
 have H3:=Lib.hid (fun w1 (hb:Below w.heap.size w w1)=>jQ a n0 c0 ls w1 (h.below hb (Nat.le_refl _)) hT hE (hS.below hb (Nat.le_refl _)) hc jd)
 have H5:=Lib.hid (fun w1 (hb:Below w.heap.size w w1) d nm=>iP d nm w1 (h.below hb (Nat.le_refl _)) hE)
 have HH:=Lib.hid h
 have HT:=Lib.hid hT
 have hr0:=h.low r h.own
 by_cases h0:bO ls=0
 ·rw[h0]at H1
  by_cases hkk:kind=1∨kind=2
  ·obtain⟨kb,hkb⟩:∃kb:Bool,(kind==2)=kb:=⟨_,rfl⟩
   have Kq:(kind !=1&&kind !=2)=false:=by rcases hkk with rfl|rfl<;>rfl
   have hme:iH T ls kind=if (aC T ls).2.2≠0 then(aC T ls).2.2 else if (aj (aC T ls).2.1 (bB T (aC T ls).1)).isSome then 21 else if 64≤T.length then 4 else 0:=by
    unfold iH
    rw[h0,if_neg (by simp),if_neg (fun hh=>hh hkk)]
   have hb1:(kind !=1)=kb:=by rw[←hkb];rcases hkk with rfl|rfl<;>rfl
   have hb2:(kind !=2)= !kb:=by rw[←hkb];rfl
   have HKB:Hid (kb=decide (kind=2)):=by
    show kb=decide (kind=2)
    rw[←hkb]
    rcases hkk with rfl|rfl<;>rfl
   by_cases h3:(aC T ls).2.2=0
   ·have hpl:aC T ls=((aC T ls).1,(aC T ls).2.1,0):=Prod.ext rfl (Prod.ext rfl h3)
    obtain⟨x2,hx2,tN,-⟩:=fV hT h3
    rw[if_neg (by rw[h3];simp)]at hme
    obtain⟨d2,hd2⟩:∃d2,d2=(aC T ls).1:=⟨_,rfl⟩
    obtain⟨n2,hn2⟩:∃n2,n2=(aC T ls).2.1:=⟨_,rfl⟩
    rw[←hd2,←hn2]at hpl hme
    rw[←hd2]at hx2
    rw[hpl]at H3
    simp only at H3
    rw[dQ hx2]at hme
    have pU:=Lib.hid (fun w1 hb=>H5.out w1 hb d2 n2)
    clear h3 hd2 hn2
    cases hn:aj n2 x2.names with
    |some j=>
     obtain⟨m,hm1,hm2⟩:=mK hT.totF hx2 hn
     rw[hm1]at pU
     rw[hn]at hme
     have m0:¬(m:Int)<0:=by omega
     have m1:(0:Int)≤m:=by omega
     have HQ:=Lib.hid (mQ (hme.trans (if_pos rfl)) (by omega))
     clear h hT hS hE H5 hpl hx2 tN hme hn hm1 hm2 h0 hkk hkb Kq hc
     cases kb
     all_goals (
      go_enter Tryz.func13,Tryz.ntmps13
      go_wp2_with fail
      (with_reducible refine H1.out.mono ?_)
      rintro e w1 ⟨rfl,hb1⟩
      have HB1:=Lib.hid hb1
      clear hb1
      go_wp2_with fail
      (with_reducible refine(H3.out w1 HB1.out).mono ?_)
      rintro e w3 ⟨rfl,hb3⟩
      have HB3:=Lib.hid (HB1.out.trans (hb3.mono HB1.out.size))
      clear hb3
      go_wp2_with fail
      (with_reducible refine(pU.out w3 HB3.out).mono ?_)
      rintro e w4 ⟨rfl,rfl⟩
      go_wp2_with fail
      go_ret2
      exact bA.He HH.out HB3.out HQ.out)
    |none=>
     rw[oH hT.sorted hx2 hn]at pU
     rw[hn]at hme
     rw[if_neg (by simp)]at hme
     by_cases h64:64≤T.length
     ·have HQ:=Lib.hid (mQ (hme.trans (if_pos h64)) (by omega))
      obtain⟨tl,htl⟩:∃tl,tl=T.length:=⟨_,rfl⟩
      have QJ:=Lib.hid htl
      have LC:decide (64≤tl)=true:=by rw[htl];simpa using h64
      have Pt:decide ((64:Int)≤(tl:Int))=true:=by rw[htl];simp;omega
      clear h hT hS hE H5 hpl hx2 tN hme hn h0 hkk hkb Kq hc h64 htl
      cases kb
      all_goals (
       go_enter Tryz.func13,Tryz.ntmps13
       go_wp2_with fail
       (with_reducible refine H1.out.mono ?_)
       rintro e w1 ⟨rfl,hb1⟩
       have HB1:=Lib.hid hb1
       clear hb1
       go_wp2_with fail
       (with_reducible refine(H3.out w1 HB1.out).mono ?_)
       rintro e w3 ⟨rfl,hb3⟩
       have HB3:=Lib.hid (HB1.out.trans (hb3.mono HB1.out.size))
       clear hb3
       go_wp2_with fail
       (with_reducible refine(pU.out w3 HB3.out).mono ?_)
       rintro e w4 ⟨rfl,rfl⟩
       obtain⟨aZ,cZ,z0,-⟩:=(HH.out.below HB3.out (Nat.le_refl _)).nodes
       rw[←QJ.out]at z0
       have hr3:r<w3.heap.size:=by have:=HB3.out.size;omega
       go_wp2_with fail
       go_ret2
       exact bA.He HH.out HB3.out HQ.out)
     ·rw[if_neg h64]at hme
      obtain⟨f,hf0,hf1,hf2,hfn,hfs⟩:=hT.free
      have HQ:Hid (aL T ls kind=(((f:Int),0),setName (bY iC (f:Int) (bq kind) T) d2 n2 f)):=by
       show aL T ls kind=_
       unfold aL og
       rw[hme,if_pos rfl,hpl,hf0]
      have Oc:=Lib.hid (oI.of hT)
      have hdf:d2≠(f:Int):=fun e=>by rw[e,hfn]at hx2;cases hx2
      have z_:Hid (aj d2 (bY iC (f:Int) (bq kind) T)=some x2∧aj n2 x2.names=none):=⟨by rw[eX,if_neg hdf];exact hx2,hn⟩
      have Aa:Hid (oI (bY iC (f:Int) (bq kind) T)):=by
       refine⟨hT.sorted.bY dR _ _,fun q hq=> ?_,by rw[sM _ hfn];omega,by rw[vD hfn];have:=gZ hT;omega⟩
       unfold bY at hq
       rw[jJ hfn]at hq
       rcases (jV iC).1 hq with rfl|h2
       ·simp[bq,aP]
       ·exact(oI.of hT).names q h2
      have EZ:=Lib.hid hfn
      have Qv:=Lib.hid hfs
      have Pv:T.length<64:=by omega
      obtain⟨n,hne⟩:∃n,n=T.length:=⟨_,rfl⟩
      have gW:=Lib.hid hne
      rw[←hne]at Pv hf2
      have LC:decide (64≤n)=false:=by simp;omega
      have Pt:decide ((64:Int)≤(n:Int))=false:=by simp;omega
      have Pw:=Lib.hid hkb
      have HFV:=Lib.hid (by rfl:(f:Int)=(f:Int))
      clear h hT hS hE H5 hpl hx2 tN hme hn h0 hkk Kq hc h64 hf0 hfn hfs hne hdf
      cases kb with
      |false=>
       go_enter Tryz.func13,Tryz.ntmps13
       go_wp2_with fail
       (with_reducible refine H1.out.mono ?_)
       rintro e w1 ⟨rfl,hb1⟩
       have HB1:=Lib.hid hb1
       clear hb1
       go_wp2_with fail
       (with_reducible refine(H3.out w1 HB1.out).mono ?_)
       rintro e w3 ⟨rfl,hb3⟩
       have HB3:=Lib.hid (HB1.out.trans (hb3.mono HB1.out.size))
       clear hb3
       go_wp2_with fail
       (with_reducible refine(pU.out w3 HB3.out).mono ?_)
       rintro e w4 ⟨rfl,rfl⟩
       have tL:=HH.out.below HB3.out (Nat.le_refl _)
       have HAT:=Lib.hid (fun i=>o_ i w3 tL (by have:=gW.out;omega))
       obtain⟨aN,cN,aD,cD,aE,cE,h1,h2,h3,h4,h8,h9,h10,h11⟩:=tL.head
       obtain⟨p0,p1,p2,pf⟩:=eB h1
       rw[←gW.out]at p0
       have hrw:r<w3.heap.size:=tL.low r tL.own
       have HR3:=Lib.hid tL
       have nM:=Lib.hid h1
       have Px:=Lib.hid h8
       have Jy:=Lib.hid h9
       have hNc:n≤cN:=by have:=gW.out;omega
       have SY:n≤cD:=by have:=gW.out;rw[List.length_map]at h3;omega
       have S9:=pf 0
       clear tL h1 h2 h3 h4 h8 h9 h10 h11 p1 p2 pf
       go_wp2_with fail
       go_loop [11] (fun v=>∃i:Nat,1≤i∧i≤f∧v= .int .i64 i) (fun v=>f-(intOf v).toNat)
       case atStart=>exact⟨1,by omega,hf1,rfl⟩
       case round=>
        obtain⟨i,hi1,hi2,rfl⟩:=hrel
        have HA:=Lib.hid (HAT.out (i:Int))
        by_cases hlt:i<f
        ·obtain⟨y,hy⟩:=Option.isSome_iff_exists.1 (Qv.out i hi1 hlt)
         obtain⟨k,hk,-⟩:=iO HT.out.sorted hy
         rw[hk]at HA
         have m0:¬(k:Int)<0:=by omega
         have m1:(0:Int)≤k:=by omega
         clear hy hk
         go_wp2_with fail
         (with_reducible refine HA.out.mono ?_)
         rintro e w4 ⟨rfl,rfl⟩
         go_wp2_with fail
         go_round
         case rel=>exact⟨i+1,by omega,by omega,by go_num⟩
         case measure=>simp[intOf];omega
        ·obtain rfl:i=f:=by omega
         rw[qL EZ.out]at HA
         clear hlt hi1 hi2
         go_wp2_with fail
         (with_reducible refine HA.out.mono ?_)
         rintro e w4 ⟨rfl,rfl⟩
         go_upto_block 2 with(fail)
         go_cut [12]from 51 to 71 (fun v wx=>sW T i w3 v wx)
         case first=>
          go_wp2_with fail
          go_loop [12] (fun v=>∃k:Nat,k≤n∧v= .int .i64 k∧(T.take k).all (fun q=>decide (q.1<(i:Int)))=true) (fun v=>n-(intOf v).toNat)
          case atStart=>exact⟨0,by omega,rfl,by simp⟩
          case round=>
           obtain⟨k,hk,rfl,hall⟩:=hrel
           have BD:=Lib.hid hall
           clear hall
           by_cases hlt:k<n
           ·have hx:T[k]? =some (T[k]'(by have:=gW.out;omega)):=List.getElem?_eq_getElem _
            obtain⟨q,hq⟩:∃q,q=T[k]'(by have:=gW.out;omega):=⟨_,rfl⟩
            rw[←hq]at hx
            have Py:=Lib.hid hx
            obtain⟨b,off,rfl,hF,hb,hi,hcc⟩:=Px.out.wide dM rfl hx (by omega)
            have q0:w3.cell? ⟨b,off+k*6,none⟩=some (.int .i64 q.1):=hcc 0 (by omega)
            clear hx hq hcc
            have i0:(0:Int)≤k:=by omega
            have i1:(k:Int)<n:=by omega
            by_cases hp:q.1<(i:Int)
            ·have e1:decide (q.1<(i:Int))=true:=by simpa using hp
             have HST:=Lib.hid (lX BD.out Py.out e1)
             clear hp
             go_wp2
             go_round
             case rel=>exact⟨k+1,by omega,by go_num,HST.out⟩
             case measure=>simp[intOf];omega
            ·have e1:decide (q.1<(i:Int))=false:=by simpa using hp
             have Hf:=Lib.hid (sW.of (w:=w3) HT.out.sorted EZ.out (by have:=gW.out;omega) BD.out (fun x hx=>by have:=Py.out;rw[this]at hx;cases hx;exact e1))
             clear hp
             go_wp2
             go_meet
             exact Hf.out
           ·have Hf:=Lib.hid (sW.of (w:=w3) (k:=k) HT.out.sorted EZ.out (by have:=gW.out;omega) BD.out (fun x hx=>by
             have:=gW.out
             rw[List.getElem?_eq_none (by omega)]at hx
             cases hx))
            go_wp2
            go_meet
            exact Hf.out
         case rest=>
          obtain⟨k,hk,rfl,hput,rfl⟩:=hcut
          have hkn:k≤n:=by have:=gW.out;omega
          have hn1:0<n:=by
           obtain⟨z,hz⟩:=Option.isSome_iff_exists.1 (dW HT.out)
           have:=List.length_pos_of_mem (cu hz)
           have:=gW.out
           omega
          have h1:=nM.out
          rw[List.length_map,←gW.out]at h1
          have h8:=Px.out
          rw[←gW.out]at h8
          obtain⟨bN,oN,rfl,-,-,-⟩:=h8.at_ (by omega)
          obtain⟨vs,hv,sZ⟩:=Jy.out
          rw[List.length_map,←gW.out]at hv
          obtain⟨bD,oD,rfl,-,-,-⟩:=hv.at_ (by omega)
          have hlv:=hv.length
          replace nM:=Lib.hid h1
          obtain⟨p0,p1,p2,pf⟩:=eB h1
          have mV:Hid (∀w4,Below w3.heap.size w3 w4→w4.cell? ⟨r,0,none⟩=some (.slice (some ⟨bN,oN,none⟩) n cN)∧w4.frozen? ⟨r,0,none⟩=false):=fun w4 hb=>⟨by rw[hb.cell (p:=⟨r,0,none⟩) hrw];exact p0,by rw[hb.frozen (p:=⟨r,0,none⟩) hrw];exact pf 0⟩
          have yE:Hid (∀w4,Below w3.heap.size w3 w4→ak (Off F r) w4 (some ⟨bN,oN,none⟩) (k*6) ((T.take k).flatMap bV)∧ak (Off F r) w4 (if cN=k then some ⟨bN,oN,none⟩else some ⟨bN,oN+k*6,none⟩) ((n-k)*6) ((T.drop k).flatMap bV)):=fun w4 hb=>by
           have:=qY (c:=cN) h8 hkn hNc hb
           rwa [jR bV 6 dM,jS bV 6 dM]at this
          obtain⟨i6,a6,b6,s6,d6⟩:=info_parts nodeInfo
          have fD:=Lib.hid (And.intro a6 (And.intro b6 (And.intro s6 d6)))
          obtain⟨i1,a1,b1,s1,d1⟩:=info_parts qN
          have HI1:=Lib.hid (And.intro a1 (And.intro b1 (And.intro s1 d1)))
          have HV:=Lib.hid hv
          have Kr:=Lib.hid hlv
          have CY:Hid (Each (Off F r) w3 vs (T.map fun q=>q.2.b)):=sZ
          have nN:=Lib.hid (And.intro (fun u hu=>Each.one (F:=Off F r) (w:=w3) CY.out (by rw[List.length_map,←gW.out];exact hlv) u (List.mem_of_mem_take hu):∀u∈vs.take k,u.oneCell'=true) (fun u hu=>Each.one (F:=Off F r) (w:=w3) CY.out (by rw[List.length_map,←gW.out];exact hlv) u (List.mem_of_mem_drop hu):∀u∈vs.drop k,u.oneCell'=true))
          have E8:Hid ((bY iC (i:Int) (bq kind) T).map (fun q=>q.2.b)=(T.map fun q=>q.2.b).take k++[]::(T.map fun q=>q.2.b).drop k∧(T.map fun q=>q.2.b).length=n):=by
           refine⟨?_,by rw[List.length_map];exact gW.out.symm⟩
           rw[hput,List.map_append,List.map_cons,List.map_take,List.map_drop]
           rfl
          have Nf:Hid (bY iC (i:Int) (bq kind) T=T.take k++((i:Int),bq kind)::T.drop k∧false=decide (kind=2)):=⟨hput _,Pw.out.symm⟩
          have i0:(0:Int)≤k:=by omega
          have R8:(k:Int)≤cN:=by omega
          have i2:(k:Int)≤n:=by omega
          have i4:(n:Int)≤cN:=by omega
          have i5:(k:Int)≤cD:=by omega
          have Xc:(n:Int)≤cD:=by omega
          clear a6 b6 s6 d6 a1 b1 s1 d1 h1 h8 hv sZ hlv p0 p1 p2 pf hput hk
          go_upto_region 19 with(fail)
          go_cut [] (fun wx=>bL w3 r (.slice (some ⟨bD,oD,none⟩) n cD) (.slice aE (aU T).length cE) (bY iC (i:Int) (bq kind) T) wx)
          case first=>
           go_wp2
           refine wp_region_noPanic ?_
           refine bW (last:=25) (S:=(fun w'=>w'.cell? ⟨r,0,none⟩=some (.slice (some ⟨bN,oN,none⟩) n cN)∧w'.frozen? ⟨r,0,none⟩=false)) (by kernel_rfl) ?_ (fun hS=> ?_)
           ·exact mV.out _ (Below.refl _ _).drew
           refine aT 0 (hS:=hS) (h:= ?_)
           refine aT 2 (hS:=hS) (h:= ?_)
           refine aT 3 (hS:=hS) (h:= ?_)
           refine aT 4 (hS:=hS) (h:= ?_)
           refine aT 5 (hS:=hS) (h:= ?_)
           refine aT 6 (hS:=hS) (h:= ?_)
           refine aT 7 (hS:=hS) (h:= ?_)
           refine aT 9 (hS:=hS) (h:= ?_)
           refine aT 10 (hS:=hS) (h:= ?_)
           refine aT 11 (hS:=hS) (h:= ?_)
           refine aT 12 (hS:=hS) (h:= ?_)
           refine aT 13 (hS:=hS) (h:= ?_)
           refine aT 16 (hS:=hS) (h:= ?_)
           refine aT 17 (hS:=hS) (h:= ?_)
           refine aT 18 (hS:=hS) (h:= ?_)
           refine aT 19 (hS:=hS) (h:= ?_)
           refine aT 20 (hS:=hS) (h:= ?_)
           refine aT 21 (hS:=hS) (h:= ?_)
           refine au (rs:=[1,14]) (by kernel_rfl) (by simp) ?_
           refine ah.cons (o:= ?o1) ?ho1 (fun K hK=> ?wa) (ah.cons (o:= ?o2) ?ho2 (fun K hK=> ?wb) ah.nil)
           case ho1=>simp only[List.getElem?_toArray,List.getElem?_cons_succ,List.getElem?_cons_zero];rfl
           case ho2=>simp only[List.getElem?_toArray,List.getElem?_cons_succ,List.getElem?_cons_zero];rfl
           case wa=>
            go_simp
            refine hK.out _ _ (fun _=>mV.out _ ((Below.refl _ _).drew.alloc (Nat.le_refl _) _)) (fun hS=> ?_)
            replace hS:=hS (by decide)
            clear hK K
            try simp only[Act.put,List.setIfInBounds_toArray,List.set_cons_zero,List.set_cons_succ]
            refine au (rs:=[8,14]) (by kernel_rfl) (by simp) ?_
            refine ah.cons (o:= ?o3) ?ho3 (fun K hK=> ?Gz) (ah.cons (o:= ?o4) ?OQ (fun K hK=> ?GA) ah.nil)
            case ho3=>simp only[List.getElem?_toArray,List.getElem?_cons_succ,List.getElem?_cons_zero];rfl
            case OQ=>simp only[List.getElem?_toArray,List.getElem?_cons_succ,List.getElem?_cons_zero];rfl
            case Gz=>
             refine av (by rfl) (.tmp 73) (.tmp 79) 99 (by rfl) w3.heap.size 98 _ _ 6 48 Tryz.underlying99 fD.out.1 fD.out.2.1 fD.out.2.2.1 fD.out.2.2.2 rfl (by omega) _ 0 [] (by rfl) (dB (MapKept.heap_alloc w3.drew _).1 (Nat.le_refl _)) _ k _ ((T.take k).flatMap bV) (by rfl) (yE.out _ ((Below.refl _ _).drew.alloc (Nat.le_refl _) _)).1 (dI _) (by unfold maxLen;omega) (by omega) (by simp<;>omega) ?_
             intro A1 c1 u1 hown0 hb1
             have hB0:Below w3.heap.size w3 u1:=((Below.refl _ _).drew.alloc (Nat.le_refl _) _).trans hb1
             refine hK.out _ _ (fun _=>mV.out _ hB0) (fun hS=> ?_)
             replace hS:=hS (by decide)
             clear hK K
             try simp only[Act.put,List.setIfInBounds_toArray,List.set_cons_zero,List.set_cons_succ]
             refine jF 14 (h:=fun K hK=> ?_)
             go_simp
             refine hK.out _ _ (fun _=>mV.out _ (hB0.alloc hB0.size _)) (fun hS=> ?_)
             replace hS:=hS (by decide)
             clear hK K
             try simp only[Act.put,List.setIfInBounds_toArray,List.set_cons_zero,List.set_cons_succ]
             rw[Nat.zero_add]at hown0
             have hown1:=own_below hown0 ((Below.refl _ _).alloc (Nat.le_refl _) (.cells (newC (i:Int) kind false).toArray 98))
             have hrow:=iy (w:=u1) (newC (i:Int) kind false) 98 (by simp[newC,maxLen])
             have hB1:Below w3.heap.size w3 (u1.alloc (.cells (newC (i:Int) kind false).toArray 98)):=hB0.alloc hB0.size _
             refine au (rs:=[15]) (by kernel_rfl) (by simp) ?_
             refine ah.cons (o:= ?o5) ?R9 (fun K hK=> ?_) ah.nil
             case R9=>simp only[List.getElem?_toArray,List.getElem?_cons_succ,List.getElem?_cons_zero];rfl
             refine av (by rfl) (.tmp 80) (.tmp 86) 99 (by rfl) w3.heap.size 98 _ _ 6 48 Tryz.underlying99 fD.out.1 fD.out.2.1 fD.out.2.2.1 fD.out.2.2.2 rfl (by omega) _ _ _ (by rfl) hown1 _ 1 _ (newC (i:Int) kind false) (by rfl) hrow (mR _ _ _) (by unfold maxLen;omega) (by omega) hB1.size ?_
             intro A2 c2 u2 hown2 hb2
             have hB2:Below w3.heap.size w3 u2:=hB1.trans hb2
             refine hK.out _ _ (fun _=>mV.out _ hB2) (fun hS=> ?_)
             replace hS:=hS (by decide)
             clear hK K
             try simp only[Act.put,List.setIfInBounds_toArray,List.set_cons_zero,List.set_cons_succ]
             refine au (rs:=[22]) (by kernel_rfl) (by simp) ?_
             refine ah.cons (o:= ?o6) ?R_ (fun K hK=> ?_) ah.nil
             case R_=>simp only[List.getElem?_toArray,List.getElem?_cons_succ,List.getElem?_cons_zero];rfl
             refine av (by rfl) (.tmp 87) (.tmp 93) 99 (by rfl) w3.heap.size 98 _ _ 6 48 Tryz.underlying99 fD.out.1 fD.out.2.1 fD.out.2.2.1 fD.out.2.2.2 rfl (by omega) _ _ _ (by rfl) hown2 _ (n-k) _ ((T.drop k).flatMap bV) (by rfl) (yE.out _ hB2).2 (dI _) (by unfold maxLen;omega) (by omega) hB2.size ?_
             intro A3 c3 u3 hown3 hb3
             have iQ:Below w3.heap.size w3 u3:=hB2.trans hb3
             refine hK.out _ _ (fun _=>mV.out _ iQ) (fun hS=> ?_)
             replace hS:=hS (by decide)
             clear hK K
             try simp only[Act.put,List.setIfInBounds_toArray,List.set_cons_zero,List.set_cons_succ]
             refine aT 23 (hS:=hS) (h:= ?_)
             refine aT 24 (hS:=hS) (h:= ?_)
             refine jF 25 (h:=fun K hK=> ?_)
             go_simp
             refine hK.out _ _ (fun h=>absurd rfl h) (fun hS=> ?_)
             clear hS hK K
             try simp only[Act.put,List.setIfInBounds_toArray,List.set_cons_zero,List.set_cons_succ]
             refine aV (by kernel_rfl) ?_ _
             refine NoPanic.normal ?_
             go_wp2_with fail
             all_goals (
              go_meet
              exact jT hrw nM.out iQ Nf.out gW.out hkn (by omega) (by simp) hown3 (by unfold maxLen;omega))
            case GA=>
             go_simp
             refine hK.out _ _ (fun _=>mV.out _ (((Below.refl _ _).drew.alloc (Nat.le_refl _) _).alloc (by simp<;>omega) _)) (fun hS=> ?_)
             replace hS:=hS (by decide)
             clear hK K
             try simp only[Act.put,List.setIfInBounds_toArray,List.set_cons_zero,List.set_cons_succ]
             refine au (rs:=[8]) (by kernel_rfl) (by simp) ?_
             refine ah.cons (o:= ?o7) ?Sb (fun K hK=> ?_) ah.nil
             case Sb=>simp only[List.getElem?_toArray,List.getElem?_cons_succ,List.getElem?_cons_zero];rfl
             refine bU (by rfl) (.tmp 73) (.tmp 79) 99 (by rfl) w3.heap.size 98 _ _ 6 48 Tryz.underlying99 fD.out.1 fD.out.2.1 fD.out.2.2.1 fD.out.2.2.2 rfl (by omega) _ 0 [] (by rfl) (dB (dS w3 _ _).1 (Nat.le_refl _)) _ k _ ((T.take k).flatMap bV) (by rfl) (yE.out _ (((Below.refl _ _).drew.alloc (Nat.le_refl _) _).alloc (by simp<;>omega) _)).1 (dI _) (by unfold maxLen;omega) (by omega) (by simp<;>omega) ?_
             intro A1 c1 u1 hown1 hb1 hg1
             have hB1:Below w3.heap.size w3 u1:=(((Below.refl _ _).drew.alloc (Nat.le_refl _) _).alloc (by simp<;>omega) _).trans hb1
             have hrow:=(gV (vs:=(newC (i:Int) kind false)) (dS w3 (.cells #[] 98) (.cells (newC (i:Int) kind false).toArray 98)).2 (by simp[newC,maxLen])).grown hg1 (fun b hb hbw=>by subst hb;simp[Value.ownBlock])
             refine hK.out _ _ (fun _=>mV.out _ hB1) (fun hS=> ?_)
             replace hS:=hS (by decide)
             clear hK K
             try simp only[Act.put,List.setIfInBounds_toArray,List.set_cons_zero,List.set_cons_succ]
             refine au (rs:=[15]) (by kernel_rfl) (by simp) ?_
             refine ah.cons (o:= ?o8) ?NY (fun K hK=> ?_) ah.nil
             case NY=>simp only[List.getElem?_toArray,List.getElem?_cons_succ,List.getElem?_cons_zero];rfl
             refine av (by rfl) (.tmp 80) (.tmp 86) 99 (by rfl) w3.heap.size 98 _ _ 6 48 Tryz.underlying99 fD.out.1 fD.out.2.1 fD.out.2.2.1 fD.out.2.2.2 rfl (by omega) _ _ _ (by rfl) hown1 _ 1 _ (newC (i:Int) kind false) (by rfl) hrow (mR _ _ _) (by unfold maxLen;omega) (by omega) hB1.size ?_
             intro A2 c2 u2 hown2 hb2
             have hB2:Below w3.heap.size w3 u2:=hB1.trans hb2
             refine hK.out _ _ (fun _=>mV.out _ hB2) (fun hS=> ?_)
             replace hS:=hS (by decide)
             clear hK K
             try simp only[Act.put,List.setIfInBounds_toArray,List.set_cons_zero,List.set_cons_succ]
             refine au (rs:=[22]) (by kernel_rfl) (by simp) ?_
             refine ah.cons (o:= ?o9) ?Sc (fun K hK=> ?_) ah.nil
             case Sc=>simp only[List.getElem?_toArray,List.getElem?_cons_succ,List.getElem?_cons_zero];rfl
             refine av (by rfl) (.tmp 87) (.tmp 93) 99 (by rfl) w3.heap.size 98 _ _ 6 48 Tryz.underlying99 fD.out.1 fD.out.2.1 fD.out.2.2.1 fD.out.2.2.2 rfl (by omega) _ _ _ (by rfl) hown2 _ (n-k) _ ((T.drop k).flatMap bV) (by rfl) (yE.out _ hB2).2 (dI _) (by unfold maxLen;omega) (by omega) hB2.size ?_
             intro A3 c3 u3 hown3 hb3
             have iQ:Below w3.heap.size w3 u3:=hB2.trans hb3
             refine hK.out _ _ (fun _=>mV.out _ iQ) (fun hS=> ?_)
             replace hS:=hS (by decide)
             clear hK K
             try simp only[Act.put,List.setIfInBounds_toArray,List.set_cons_zero,List.set_cons_succ]
             refine aT 23 (hS:=hS) (h:= ?_)
             refine aT 24 (hS:=hS) (h:= ?_)
             refine jF 25 (h:=fun K hK=> ?_)
             go_simp
             refine hK.out _ _ (fun h=>absurd rfl h) (fun hS=> ?_)
             clear hS hK K
             try simp only[Act.put,List.setIfInBounds_toArray,List.set_cons_zero,List.set_cons_succ]
             refine aV (by kernel_rfl) ?_ _
             refine NoPanic.normal ?_
             go_wp2_with fail
             all_goals (
              go_meet
              exact jT hrw nM.out iQ Nf.out gW.out hkn (by omega) (by simp) hown3 (by unfold maxLen;omega))
           case wb=>
            go_simp
            refine hK.out _ _ (fun _=>mV.out _ ((Below.refl _ _).drew.alloc (Nat.le_refl _) _)) (fun hS=> ?_)
            replace hS:=hS (by decide)
            clear hK K
            try simp only[Act.put,List.setIfInBounds_toArray,List.set_cons_zero,List.set_cons_succ]
            refine jF 1 (h:=fun K hK=> ?_)
            go_simp
            refine hK.out _ _ (fun _=>mV.out _ (((Below.refl _ _).drew.alloc (Nat.le_refl _) _).alloc (by simp<;>omega) _)) (fun hS=> ?_)
            replace hS:=hS (by decide)
            clear hK K
            try simp only[Act.put,List.setIfInBounds_toArray,List.set_cons_zero,List.set_cons_succ]
            refine au (rs:=[8]) (by kernel_rfl) (by simp) ?_
            refine ah.cons (o:= ?YD) ?Mw (fun K hK=> ?_) ah.nil
            case Mw=>simp only[List.getElem?_toArray,List.getElem?_cons_succ,List.getElem?_cons_zero];rfl
            refine bU (by rfl) (.tmp 73) (.tmp 79) 99 (by rfl) w3.heap.size 98 _ _ 6 48 Tryz.underlying99 fD.out.1 fD.out.2.1 fD.out.2.2.1 fD.out.2.2.2 rfl (by omega) _ 0 [] (by rfl) (dB (dS w3 _ _).2 (by omega)) _ k _ ((T.take k).flatMap bV) (by rfl) (yE.out _ (((Below.refl _ _).drew.alloc (Nat.le_refl _) _).alloc (by simp<;>omega) _)).1 (dI _) (by unfold maxLen;omega) (by omega) (by simp<;>omega) ?_
            intro A1 c1 u1 hown1 hb1 hg1
            have hB1:Below w3.heap.size w3 u1:=(((Below.refl _ _).drew.alloc (Nat.le_refl _) _).alloc (by simp<;>omega) _).trans hb1
            have hrow:=(gV (vs:=(newC (i:Int) kind false)) (dS w3 (.cells (newC (i:Int) kind false).toArray 98) (.cells #[] 98)).1 (by simp[newC,maxLen])).grown hg1 (fun b hb hbw=>by subst hb;simp[Value.ownBlock])
            refine hK.out _ _ (fun _=>mV.out _ hB1) (fun hS=> ?_)
            replace hS:=hS (by decide)
            clear hK K
            try simp only[Act.put,List.setIfInBounds_toArray,List.set_cons_zero,List.set_cons_succ]
            refine au (rs:=[15]) (by kernel_rfl) (by simp) ?_
            refine ah.cons (o:= ?YE) ?Mx (fun K hK=> ?_) ah.nil
            case Mx=>simp only[List.getElem?_toArray,List.getElem?_cons_succ,List.getElem?_cons_zero];rfl
            refine av (by rfl) (.tmp 80) (.tmp 86) 99 (by rfl) w3.heap.size 98 _ _ 6 48 Tryz.underlying99 fD.out.1 fD.out.2.1 fD.out.2.2.1 fD.out.2.2.2 rfl (by omega) _ _ _ (by rfl) hown1 _ 1 _ (newC (i:Int) kind false) (by rfl) hrow (mR _ _ _) (by unfold maxLen;omega) (by omega) hB1.size ?_
            intro A2 c2 u2 hown2 hb2
            have hB2:Below w3.heap.size w3 u2:=hB1.trans hb2
            refine hK.out _ _ (fun _=>mV.out _ hB2) (fun hS=> ?_)
            replace hS:=hS (by decide)
            clear hK K
            try simp only[Act.put,List.setIfInBounds_toArray,List.set_cons_zero,List.set_cons_succ]
            refine au (rs:=[22]) (by kernel_rfl) (by simp) ?_
            refine ah.cons (o:= ?YF) ?MB (fun K hK=> ?_) ah.nil
            case MB=>simp only[List.getElem?_toArray,List.getElem?_cons_succ,List.getElem?_cons_zero];rfl
            refine av (by rfl) (.tmp 87) (.tmp 93) 99 (by rfl) w3.heap.size 98 _ _ 6 48 Tryz.underlying99 fD.out.1 fD.out.2.1 fD.out.2.2.1 fD.out.2.2.2 rfl (by omega) _ _ _ (by rfl) hown2 _ (n-k) _ ((T.drop k).flatMap bV) (by rfl) (yE.out _ hB2).2 (dI _) (by unfold maxLen;omega) (by omega) hB2.size ?_
            intro A3 c3 u3 hown3 hb3
            have iQ:Below w3.heap.size w3 u3:=hB2.trans hb3
            refine hK.out _ _ (fun _=>mV.out _ iQ) (fun hS=> ?_)
            replace hS:=hS (by decide)
            clear hK K
            try simp only[Act.put,List.setIfInBounds_toArray,List.set_cons_zero,List.set_cons_succ]
            refine aT 23 (hS:=hS) (h:= ?_)
            refine aT 24 (hS:=hS) (h:= ?_)
            refine jF 25 (h:=fun K hK=> ?_)
            go_simp
            refine hK.out _ _ (fun h=>absurd rfl h) (fun hS=> ?_)
            clear hS hK K
            try simp only[Act.put,List.setIfInBounds_toArray,List.set_cons_zero,List.set_cons_succ]
            refine aV (by kernel_rfl) ?_ _
            refine NoPanic.normal ?_
            go_wp2_with fail
            all_goals (
             go_meet
             exact jT hrw nM.out iQ Nf.out gW.out hkn (by omega) (by simp) hown3 (by unfold maxLen;omega))
          case rest=>
           obtain⟨w5,rfl⟩:∃w5:World,w5=wc:=⟨_,rfl⟩
           have HM:=Lib.hid hcut
           obtain⟨hK,-,aM,cM,h5,-,-,-⟩:=hcut
           obtain⟨p0,p1,p2,pf⟩:=eB h5
           have hs1:=hK.size
           have hr1:r<w5.heap.size:=by omega
           have hv1:ak (Off (Grow F w3 w5) r) w5 (some ⟨bD,oD,none⟩) (n*1) vs:=by rw[Nat.mul_one];exact lN hK HV.out
           have lV:Hid (∀w4,Below w5.heap.size w5 w4→w4.cell? ⟨r,1,none⟩=some (.slice (some ⟨bD,oD,none⟩) n cD)∧w4.frozen? ⟨r,1,none⟩=false):=fun w4 hb=>⟨by rw[hb.cell (p:=⟨r,1,none⟩) hr1];exact p1,by rw[hb.frozen (p:=⟨r,1,none⟩) hr1];exact pf 1⟩
           have qo:Hid (∀w4,Below w5.heap.size w5 w4→ak (Off (Grow F w3 w5) r) w4 (some ⟨bD,oD,none⟩) (k*1) (vs.take k)∧ak (Off (Grow F w3 w5) r) w4 (if cD=k then some ⟨bD,oD,none⟩else some ⟨bD,oD+k,none⟩) ((n-k)*1) (vs.drop k)):=fun w4 hb=>by
            have:=qY (c:=cD) hv1 hkn SY hb
            rw[Nat.mul_one]at this
            simpa only[Nat.mul_one]using this
           clear hK h5 p0 p1 p2 pf hv1
           go_upto_region 20 with(fail)
           go_cut [] (fun wx=>dh F w3 r (bY iC (i:Int) (bq kind) T) ((bY iC (i:Int) (bq kind) T).map fun q=>q.2.b) (aU T) (.tuple #[]) (.returned (.tuple #[])) wx)
           case first=>
            go_wp2
            refine wp_region_noPanic ?_
            refine bW (last:=20) (S:=(fun w'=>w'.cell? ⟨r,1,none⟩=some (.slice (some ⟨bD,oD,none⟩) n cD)∧w'.frozen? ⟨r,1,none⟩=false)) (by kernel_rfl) ?_ (fun hS=> ?_)
            ·exact lV.out _ (Below.refl _ _).drew
            refine aT 0 (hS:=hS) (h:= ?_)
            refine aT 2 (hS:=hS) (h:= ?_)
            refine aT 3 (hS:=hS) (h:= ?_)
            refine aT 4 (hS:=hS) (h:= ?_)
            refine aT 5 (hS:=hS) (h:= ?_)
            refine aT 6 (hS:=hS) (h:= ?_)
            refine aT 7 (hS:=hS) (h:= ?_)
            refine aT 11 (hS:=hS) (h:= ?_)
            refine aT 12 (hS:=hS) (h:= ?_)
            refine aT 13 (hS:=hS) (h:= ?_)
            refine aT 14 (hS:=hS) (h:= ?_)
            refine aT 15 (hS:=hS) (h:= ?_)
            refine aT 16 (hS:=hS) (h:= ?_)
            refine au (rs:=[1,9]) (by kernel_rfl) (by simp) ?_
            refine ah.cons (o:= ?YG) ?MC (fun K hK=> ?wa) (ah.cons (o:= ?YH) ?ME (fun K hK=> ?wb) ah.nil)
            case MC=>simp only[List.getElem?_toArray,List.getElem?_cons_succ,List.getElem?_cons_zero];rfl
            case ME=>simp only[List.getElem?_toArray,List.getElem?_cons_succ,List.getElem?_cons_zero];rfl
            case wa=>
             go_simp
             refine hK.out _ _ (fun _=>lV.out _ ((Below.refl _ _).drew.alloc (Nat.le_refl _) _)) (fun hS=> ?_)
             replace hS:=hS (by decide)
             clear hK K
             try simp only[Act.put,List.setIfInBounds_toArray,List.set_cons_zero,List.set_cons_succ]
             refine au (rs:=[8,9]) (by kernel_rfl) (by simp) ?_
             refine ah.cons (o:= ?YI) ?MF (fun K hK=> ?Gz) (ah.cons (o:= ?o16) ?MG (fun K hK=> ?GA) ah.nil)
             case MF=>simp only[List.getElem?_toArray,List.getElem?_cons_succ,List.getElem?_cons_zero];rfl
             case MG=>simp only[List.getElem?_toArray,List.getElem?_cons_succ,List.getElem?_cons_zero];rfl
             case Gz=>
              refine av (by rfl) (.tmp 98) (.tmp 104) 86 (by rfl) w5.heap.size 39 _ _ 1 24 Tryz.underlying86 HI1.out.1 HI1.out.2.1 HI1.out.2.2.1 HI1.out.2.2.2 rfl (by omega) _ 0 [] (by rfl) (dB (MapKept.heap_alloc w5.drew _).1 (Nat.le_refl _)) _ k _ (vs.take k) (by rfl) (qo.out _ ((Below.refl _ _).drew.alloc (Nat.le_refl _) _)).1 nN.out.1 (by unfold maxLen;omega) (by omega) (by simp<;>omega) ?_
              intro A1 c1 u1 hown0 hb1
              have hB0:Below w5.heap.size w5 u1:=((Below.refl _ _).drew.alloc (Nat.le_refl _) _).trans hb1
              refine hK.out _ _ (fun _=>lV.out _ hB0) (fun hS=> ?_)
              replace hS:=hS (by decide)
              clear hK K
              try simp only[Act.put,List.setIfInBounds_toArray,List.set_cons_zero,List.set_cons_succ]
              refine jF 9 (h:=fun K hK=> ?_)
              go_simp
              refine hK.out _ _ (fun _=>lV.out _ (hB0.alloc hB0.size _)) (fun hS=> ?_)
              replace hS:=hS (by decide)
              clear hK K
              try simp only[Act.put,List.setIfInBounds_toArray,List.set_cons_zero,List.set_cons_succ]
              rw[Nat.zero_add]at hown0
              have hown1:=own_below hown0 ((Below.refl _ _).alloc (Nat.le_refl _) (.cells [Value.slice none 0 0].toArray 39))
              have hrow:=iy (w:=u1) [Value.slice none 0 0] 39 (by simp[newC,maxLen])
              have hB1:Below w5.heap.size w5 (u1.alloc (.cells [Value.slice none 0 0].toArray 39)):=hB0.alloc hB0.size _
              refine au (rs:=[10]) (by kernel_rfl) (by simp) ?_
              refine ah.cons (o:= ?YJ) ?MH (fun K hK=> ?_) ah.nil
              case MH=>simp only[List.getElem?_toArray,List.getElem?_cons_succ,List.getElem?_cons_zero];rfl
              refine av (by rfl) (.tmp 105) (.tmp 106) 86 (by rfl) w5.heap.size 39 _ _ 1 24 Tryz.underlying86 HI1.out.1 HI1.out.2.1 HI1.out.2.2.1 HI1.out.2.2.2 rfl (by omega) _ _ _ (by rfl) hown1 _ 1 _ [Value.slice none 0 0] (by rfl) hrow (by intro u hu;simp only[List.mem_singleton]at hu;subst hu;rfl) (by unfold maxLen;omega) (by omega) hB1.size ?_
              intro A2 c2 u2 hown2 hb2
              have hB2:Below w5.heap.size w5 u2:=hB1.trans hb2
              refine hK.out _ _ (fun _=>lV.out _ hB2) (fun hS=> ?_)
              replace hS:=hS (by decide)
              clear hK K
              try simp only[Act.put,List.setIfInBounds_toArray,List.set_cons_zero,List.set_cons_succ]
              refine au (rs:=[17]) (by kernel_rfl) (by simp) ?_
              refine ah.cons (o:= ?YK) ?MI (fun K hK=> ?_) ah.nil
              case MI=>simp only[List.getElem?_toArray,List.getElem?_cons_succ,List.getElem?_cons_zero];rfl
              refine av (by rfl) (.tmp 107) (.tmp 113) 86 (by rfl) w5.heap.size 39 _ _ 1 24 Tryz.underlying86 HI1.out.1 HI1.out.2.1 HI1.out.2.2.1 HI1.out.2.2.2 rfl (by omega) _ _ _ (by rfl) hown2 _ (n-k) _ (vs.drop k) (by rfl) (qo.out _ hB2).2 nN.out.2 (by unfold maxLen;omega) (by omega) hB2.size ?_
              intro A3 c3 u3 hown3 hb3
              have iQ:Below w5.heap.size w5 u3:=hB2.trans hb3
              refine hK.out _ _ (fun _=>lV.out _ iQ) (fun hS=> ?_)
              replace hS:=hS (by decide)
              clear hK K
              try simp only[Act.put,List.setIfInBounds_toArray,List.set_cons_zero,List.set_cons_succ]
              refine aT 18 (hS:=hS) (h:= ?_)
              refine aT 19 (hS:=hS) (h:= ?_)
              refine jF 20 (h:=fun K hK=> ?_)
              go_simp
              refine hK.out _ _ (fun h=>absurd rfl h) (fun hS=> ?_)
              clear hS hK K
              try simp only[Act.put,List.setIfInBounds_toArray,List.set_cons_zero,List.set_cons_succ]
              refine aV (by kernel_rfl) ?_ _
              refine NoPanic.normal ?_
              go_wp2_with fail
              all_goals (
               go_meet
               exact kW HR3.out nM.out HM.out iQ E8.out hkn CY.out Kr.out (by omega) (by simp) hown3 (by unfold maxLen;omega))
             case GA=>
              go_simp
              refine hK.out _ _ (fun _=>lV.out _ (((Below.refl _ _).drew.alloc (Nat.le_refl _) _).alloc (by simp<;>omega) _)) (fun hS=> ?_)
              replace hS:=hS (by decide)
              clear hK K
              try simp only[Act.put,List.setIfInBounds_toArray,List.set_cons_zero,List.set_cons_succ]
              refine au (rs:=[8]) (by kernel_rfl) (by simp) ?_
              refine ah.cons (o:= ?YL) ?MJ (fun K hK=> ?_) ah.nil
              case MJ=>simp only[List.getElem?_toArray,List.getElem?_cons_succ,List.getElem?_cons_zero];rfl
              refine bU (by rfl) (.tmp 98) (.tmp 104) 86 (by rfl) w5.heap.size 39 _ _ 1 24 Tryz.underlying86 HI1.out.1 HI1.out.2.1 HI1.out.2.2.1 HI1.out.2.2.2 rfl (by omega) _ 0 [] (by rfl) (dB (dS w5 _ _).1 (Nat.le_refl _)) _ k _ (vs.take k) (by rfl) (qo.out _ (((Below.refl _ _).drew.alloc (Nat.le_refl _) _).alloc (by simp<;>omega) _)).1 nN.out.1 (by unfold maxLen;omega) (by omega) (by simp<;>omega) ?_
              intro A1 c1 u1 hown1 hb1 hg1
              have hB1:Below w5.heap.size w5 u1:=(((Below.refl _ _).drew.alloc (Nat.le_refl _) _).alloc (by simp<;>omega) _).trans hb1
              have hrow:=(gV (vs:=[Value.slice none 0 0]) (dS w5 (.cells #[] 39) (.cells [Value.slice none 0 0].toArray 39)).2 (by simp[newC,maxLen])).grown hg1 (fun b hb hbw=>by subst hb;simp[Value.ownBlock])
              refine hK.out _ _ (fun _=>lV.out _ hB1) (fun hS=> ?_)
              replace hS:=hS (by decide)
              clear hK K
              try simp only[Act.put,List.setIfInBounds_toArray,List.set_cons_zero,List.set_cons_succ]
              refine au (rs:=[10]) (by kernel_rfl) (by simp) ?_
              refine ah.cons (o:= ?YM) ?MK (fun K hK=> ?_) ah.nil
              case MK=>simp only[List.getElem?_toArray,List.getElem?_cons_succ,List.getElem?_cons_zero];rfl
              refine av (by rfl) (.tmp 105) (.tmp 106) 86 (by rfl) w5.heap.size 39 _ _ 1 24 Tryz.underlying86 HI1.out.1 HI1.out.2.1 HI1.out.2.2.1 HI1.out.2.2.2 rfl (by omega) _ _ _ (by rfl) hown1 _ 1 _ [Value.slice none 0 0] (by rfl) hrow (by intro u hu;simp only[List.mem_singleton]at hu;subst hu;rfl) (by unfold maxLen;omega) (by omega) hB1.size ?_
              intro A2 c2 u2 hown2 hb2
              have hB2:Below w5.heap.size w5 u2:=hB1.trans hb2
              refine hK.out _ _ (fun _=>lV.out _ hB2) (fun hS=> ?_)
              replace hS:=hS (by decide)
              clear hK K
              try simp only[Act.put,List.setIfInBounds_toArray,List.set_cons_zero,List.set_cons_succ]
              refine au (rs:=[17]) (by kernel_rfl) (by simp) ?_
              refine ah.cons (o:= ?YN) ?ML (fun K hK=> ?_) ah.nil
              case ML=>simp only[List.getElem?_toArray,List.getElem?_cons_succ,List.getElem?_cons_zero];rfl
              refine av (by rfl) (.tmp 107) (.tmp 113) 86 (by rfl) w5.heap.size 39 _ _ 1 24 Tryz.underlying86 HI1.out.1 HI1.out.2.1 HI1.out.2.2.1 HI1.out.2.2.2 rfl (by omega) _ _ _ (by rfl) hown2 _ (n-k) _ (vs.drop k) (by rfl) (qo.out _ hB2).2 nN.out.2 (by unfold maxLen;omega) (by omega) hB2.size ?_
              intro A3 c3 u3 hown3 hb3
              have iQ:Below w5.heap.size w5 u3:=hB2.trans hb3
              refine hK.out _ _ (fun _=>lV.out _ iQ) (fun hS=> ?_)
              replace hS:=hS (by decide)
              clear hK K
              try simp only[Act.put,List.setIfInBounds_toArray,List.set_cons_zero,List.set_cons_succ]
              refine aT 18 (hS:=hS) (h:= ?_)
              refine aT 19 (hS:=hS) (h:= ?_)
              refine jF 20 (h:=fun K hK=> ?_)
              go_simp
              refine hK.out _ _ (fun h=>absurd rfl h) (fun hS=> ?_)
              clear hS hK K
              try simp only[Act.put,List.setIfInBounds_toArray,List.set_cons_zero,List.set_cons_succ]
              refine aV (by kernel_rfl) ?_ _
              refine NoPanic.normal ?_
              go_wp2_with fail
              all_goals (
               go_meet
               exact kW HR3.out nM.out HM.out iQ E8.out hkn CY.out Kr.out (by omega) (by simp) hown3 (by unfold maxLen;omega))
            case wb=>
             go_simp
             refine hK.out _ _ (fun _=>lV.out _ ((Below.refl _ _).drew.alloc (Nat.le_refl _) _)) (fun hS=> ?_)
             replace hS:=hS (by decide)
             clear hK K
             try simp only[Act.put,List.setIfInBounds_toArray,List.set_cons_zero,List.set_cons_succ]
             refine jF 1 (h:=fun K hK=> ?_)
             go_simp
             refine hK.out _ _ (fun _=>lV.out _ (((Below.refl _ _).drew.alloc (Nat.le_refl _) _).alloc (by simp<;>omega) _)) (fun hS=> ?_)
             replace hS:=hS (by decide)
             clear hK K
             try simp only[Act.put,List.setIfInBounds_toArray,List.set_cons_zero,List.set_cons_succ]
             refine au (rs:=[8]) (by kernel_rfl) (by simp) ?_
             refine ah.cons (o:= ?YO) ?MN (fun K hK=> ?_) ah.nil
             case MN=>simp only[List.getElem?_toArray,List.getElem?_cons_succ,List.getElem?_cons_zero];rfl
             refine bU (by rfl) (.tmp 98) (.tmp 104) 86 (by rfl) w5.heap.size 39 _ _ 1 24 Tryz.underlying86 HI1.out.1 HI1.out.2.1 HI1.out.2.2.1 HI1.out.2.2.2 rfl (by omega) _ 0 [] (by rfl) (dB (dS w5 _ _).2 (by omega)) _ k _ (vs.take k) (by rfl) (qo.out _ (((Below.refl _ _).drew.alloc (Nat.le_refl _) _).alloc (by simp<;>omega) _)).1 nN.out.1 (by unfold maxLen;omega) (by omega) (by simp<;>omega) ?_
             intro A1 c1 u1 hown1 hb1 hg1
             have hB1:Below w5.heap.size w5 u1:=(((Below.refl _ _).drew.alloc (Nat.le_refl _) _).alloc (by simp<;>omega) _).trans hb1
             have hrow:=(gV (vs:=[Value.slice none 0 0]) (dS w5 (.cells [Value.slice none 0 0].toArray 39) (.cells #[] 39)).1 (by simp[newC,maxLen])).grown hg1 (fun b hb hbw=>by subst hb;simp[Value.ownBlock])
             refine hK.out _ _ (fun _=>lV.out _ hB1) (fun hS=> ?_)
             replace hS:=hS (by decide)
             clear hK K
             try simp only[Act.put,List.setIfInBounds_toArray,List.set_cons_zero,List.set_cons_succ]
             refine au (rs:=[10]) (by kernel_rfl) (by simp) ?_
             refine ah.cons (o:= ?YP) ?MO (fun K hK=> ?_) ah.nil
             case MO=>simp only[List.getElem?_toArray,List.getElem?_cons_succ,List.getElem?_cons_zero];rfl
             refine av (by rfl) (.tmp 105) (.tmp 106) 86 (by rfl) w5.heap.size 39 _ _ 1 24 Tryz.underlying86 HI1.out.1 HI1.out.2.1 HI1.out.2.2.1 HI1.out.2.2.2 rfl (by omega) _ _ _ (by rfl) hown1 _ 1 _ [Value.slice none 0 0] (by rfl) hrow (by intro u hu;simp only[List.mem_singleton]at hu;subst hu;rfl) (by unfold maxLen;omega) (by omega) hB1.size ?_
             intro A2 c2 u2 hown2 hb2
             have hB2:Below w5.heap.size w5 u2:=hB1.trans hb2
             refine hK.out _ _ (fun _=>lV.out _ hB2) (fun hS=> ?_)
             replace hS:=hS (by decide)
             clear hK K
             try simp only[Act.put,List.setIfInBounds_toArray,List.set_cons_zero,List.set_cons_succ]
             refine au (rs:=[17]) (by kernel_rfl) (by simp) ?_
             refine ah.cons (o:= ?YQ) ?MP (fun K hK=> ?_) ah.nil
             case MP=>simp only[List.getElem?_toArray,List.getElem?_cons_succ,List.getElem?_cons_zero];rfl
             refine av (by rfl) (.tmp 107) (.tmp 113) 86 (by rfl) w5.heap.size 39 _ _ 1 24 Tryz.underlying86 HI1.out.1 HI1.out.2.1 HI1.out.2.2.1 HI1.out.2.2.2 rfl (by omega) _ _ _ (by rfl) hown2 _ (n-k) _ (vs.drop k) (by rfl) (qo.out _ hB2).2 nN.out.2 (by unfold maxLen;omega) (by omega) hB2.size ?_
             intro A3 c3 u3 hown3 hb3
             have iQ:Below w5.heap.size w5 u3:=hB2.trans hb3
             refine hK.out _ _ (fun _=>lV.out _ iQ) (fun hS=> ?_)
             replace hS:=hS (by decide)
             clear hK K
             try simp only[Act.put,List.setIfInBounds_toArray,List.set_cons_zero,List.set_cons_succ]
             refine aT 18 (hS:=hS) (h:= ?_)
             refine aT 19 (hS:=hS) (h:= ?_)
             refine jF 20 (h:=fun K hK=> ?_)
             go_simp
             refine hK.out _ _ (fun h=>absurd rfl h) (fun hS=> ?_)
             clear hS hK K
             try simp only[Act.put,List.setIfInBounds_toArray,List.set_cons_zero,List.set_cons_succ]
             refine aV (by kernel_rfl) ?_ _
             refine NoPanic.normal ?_
             go_wp2_with fail
             all_goals (
              go_meet
              exact kW HR3.out nM.out HM.out iQ E8.out hkn CY.out Kr.out (by omega) (by simp) hown3 (by unfold maxLen;omega))
           case rest=>
            obtain⟨w6,rfl⟩:∃w6:World,w6=wc:=⟨_,rfl⟩
            rw[←vD EZ.out]at hcut
            have vI:Hid (bA F w3 r (bY iC (i:Int) (bq kind) T) (.tuple #[]) (.returned (.tuple #[])) w6):=hcut
            have HAD:=Lib.hid (qR d2 n2 i x2 w6 vI.out.2.2 Aa.out z_.out.1 z_.out.2)
            clear hcut
            go_wp2_with fail
            (with_reducible refine HAD.out.mono ?_)
            rintro e w7 G8
            have JV:=Lib.hid G8
            obtain rfl:=G8.1
            clear G8
            go_wp2_with fail
            go_ret2
            rw[HQ.out]
            exact(dh.behind HH.out.low HB3.out (vI.out.trans HR3.out.low JV.out)).val _
      |true=>
       go_enter Tryz.func13,Tryz.ntmps13
       go_wp2_with fail
       (with_reducible refine H1.out.mono ?_)
       rintro e w1 ⟨rfl,hb1⟩
       have HB1:=Lib.hid hb1
       clear hb1
       go_wp2_with fail
       (with_reducible refine(H3.out w1 HB1.out).mono ?_)
       rintro e w3 ⟨rfl,hb3⟩
       have HB3:=Lib.hid (HB1.out.trans (hb3.mono HB1.out.size))
       clear hb3
       go_wp2_with fail
       (with_reducible refine(pU.out w3 HB3.out).mono ?_)
       rintro e w4 ⟨rfl,rfl⟩
       have tL:=HH.out.below HB3.out (Nat.le_refl _)
       have HAT:=Lib.hid (fun i=>o_ i w3 tL (by have:=gW.out;omega))
       obtain⟨aN,cN,aD,cD,aE,cE,h1,h2,h3,h4,h8,h9,h10,h11⟩:=tL.head
       obtain⟨p0,p1,p2,pf⟩:=eB h1
       rw[←gW.out]at p0
       have hrw:r<w3.heap.size:=tL.low r tL.own
       have HR3:=Lib.hid tL
       have nM:=Lib.hid h1
       have Px:=Lib.hid h8
       have Jy:=Lib.hid h9
       have hNc:n≤cN:=by have:=gW.out;omega
       have SY:n≤cD:=by have:=gW.out;rw[List.length_map]at h3;omega
       have S9:=pf 0
       clear tL h1 h2 h3 h4 h8 h9 h10 h11 p1 p2 pf
       go_wp2_with fail
       go_loop [11] (fun v=>∃i:Nat,1≤i∧i≤f∧v= .int .i64 i) (fun v=>f-(intOf v).toNat)
       case atStart=>exact⟨1,by omega,hf1,rfl⟩
       case round=>
        obtain⟨i,hi1,hi2,rfl⟩:=hrel
        have HA:=Lib.hid (HAT.out (i:Int))
        by_cases hlt:i<f
        ·obtain⟨y,hy⟩:=Option.isSome_iff_exists.1 (Qv.out i hi1 hlt)
         obtain⟨k,hk,-⟩:=iO HT.out.sorted hy
         rw[hk]at HA
         have m0:¬(k:Int)<0:=by omega
         have m1:(0:Int)≤k:=by omega
         clear hy hk
         go_wp2_with fail
         (with_reducible refine HA.out.mono ?_)
         rintro e w4 ⟨rfl,rfl⟩
         go_wp2_with fail
         go_round
         case rel=>exact⟨i+1,by omega,by omega,by go_num⟩
         case measure=>simp[intOf];omega
        ·obtain rfl:i=f:=by omega
         rw[qL EZ.out]at HA
         clear hlt hi1 hi2
         go_wp2_with fail
         (with_reducible refine HA.out.mono ?_)
         rintro e w4 ⟨rfl,rfl⟩
         go_upto_block 2 with(fail)
         go_cut [12]from 51 to 71 (fun v wx=>sW T i w3 v wx)
         case first=>
          go_wp2_with fail
          go_loop [12] (fun v=>∃k:Nat,k≤n∧v= .int .i64 k∧(T.take k).all (fun q=>decide (q.1<(i:Int)))=true) (fun v=>n-(intOf v).toNat)
          case atStart=>exact⟨0,by omega,rfl,by simp⟩
          case round=>
           obtain⟨k,hk,rfl,hall⟩:=hrel
           have BD:=Lib.hid hall
           clear hall
           by_cases hlt:k<n
           ·have hx:T[k]? =some (T[k]'(by have:=gW.out;omega)):=List.getElem?_eq_getElem _
            obtain⟨q,hq⟩:∃q,q=T[k]'(by have:=gW.out;omega):=⟨_,rfl⟩
            rw[←hq]at hx
            have Py:=Lib.hid hx
            obtain⟨b,off,rfl,hF,hb,hi,hcc⟩:=Px.out.wide dM rfl hx (by omega)
            have q0:w3.cell? ⟨b,off+k*6,none⟩=some (.int .i64 q.1):=hcc 0 (by omega)
            clear hx hq hcc
            have i0:(0:Int)≤k:=by omega
            have i1:(k:Int)<n:=by omega
            by_cases hp:q.1<(i:Int)
            ·have e1:decide (q.1<(i:Int))=true:=by simpa using hp
             have HST:=Lib.hid (lX BD.out Py.out e1)
             clear hp
             go_wp2
             go_round
             case rel=>exact⟨k+1,by omega,by go_num,HST.out⟩
             case measure=>simp[intOf];omega
            ·have e1:decide (q.1<(i:Int))=false:=by simpa using hp
             have Hf:=Lib.hid (sW.of (w:=w3) HT.out.sorted EZ.out (by have:=gW.out;omega) BD.out (fun x hx=>by have:=Py.out;rw[this]at hx;cases hx;exact e1))
             clear hp
             go_wp2
             go_meet
             exact Hf.out
           ·have Hf:=Lib.hid (sW.of (w:=w3) (k:=k) HT.out.sorted EZ.out (by have:=gW.out;omega) BD.out (fun x hx=>by
             have:=gW.out
             rw[List.getElem?_eq_none (by omega)]at hx
             cases hx))
            go_wp2
            go_meet
            exact Hf.out
         case rest=>
          obtain⟨k,hk,rfl,hput,rfl⟩:=hcut
          have hkn:k≤n:=by have:=gW.out;omega
          have hn1:0<n:=by
           obtain⟨z,hz⟩:=Option.isSome_iff_exists.1 (dW HT.out)
           have:=List.length_pos_of_mem (cu hz)
           have:=gW.out
           omega
          have h1:=nM.out
          rw[List.length_map,←gW.out]at h1
          have h8:=Px.out
          rw[←gW.out]at h8
          obtain⟨bN,oN,rfl,-,-,-⟩:=h8.at_ (by omega)
          obtain⟨vs,hv,sZ⟩:=Jy.out
          rw[List.length_map,←gW.out]at hv
          obtain⟨bD,oD,rfl,-,-,-⟩:=hv.at_ (by omega)
          have hlv:=hv.length
          replace nM:=Lib.hid h1
          obtain⟨p0,p1,p2,pf⟩:=eB h1
          have mV:Hid (∀w4,Below w3.heap.size w3 w4→w4.cell? ⟨r,0,none⟩=some (.slice (some ⟨bN,oN,none⟩) n cN)∧w4.frozen? ⟨r,0,none⟩=false):=fun w4 hb=>⟨by rw[hb.cell (p:=⟨r,0,none⟩) hrw];exact p0,by rw[hb.frozen (p:=⟨r,0,none⟩) hrw];exact pf 0⟩
          have yE:Hid (∀w4,Below w3.heap.size w3 w4→ak (Off F r) w4 (some ⟨bN,oN,none⟩) (k*6) ((T.take k).flatMap bV)∧ak (Off F r) w4 (if cN=k then some ⟨bN,oN,none⟩else some ⟨bN,oN+k*6,none⟩) ((n-k)*6) ((T.drop k).flatMap bV)):=fun w4 hb=>by
           have:=qY (c:=cN) h8 hkn hNc hb
           rwa [jR bV 6 dM,jS bV 6 dM]at this
          obtain⟨i6,a6,b6,s6,d6⟩:=info_parts nodeInfo
          have fD:=Lib.hid (And.intro a6 (And.intro b6 (And.intro s6 d6)))
          obtain⟨i1,a1,b1,s1,d1⟩:=info_parts qN
          have HI1:=Lib.hid (And.intro a1 (And.intro b1 (And.intro s1 d1)))
          have HV:=Lib.hid hv
          have Kr:=Lib.hid hlv
          have CY:Hid (Each (Off F r) w3 vs (T.map fun q=>q.2.b)):=sZ
          have nN:=Lib.hid (And.intro (fun u hu=>Each.one (F:=Off F r) (w:=w3) CY.out (by rw[List.length_map,←gW.out];exact hlv) u (List.mem_of_mem_take hu):∀u∈vs.take k,u.oneCell'=true) (fun u hu=>Each.one (F:=Off F r) (w:=w3) CY.out (by rw[List.length_map,←gW.out];exact hlv) u (List.mem_of_mem_drop hu):∀u∈vs.drop k,u.oneCell'=true))
          have E8:Hid ((bY iC (i:Int) (bq kind) T).map (fun q=>q.2.b)=(T.map fun q=>q.2.b).take k++[]::(T.map fun q=>q.2.b).drop k∧(T.map fun q=>q.2.b).length=n):=by
           refine⟨?_,by rw[List.length_map];exact gW.out.symm⟩
           rw[hput,List.map_append,List.map_cons,List.map_take,List.map_drop]
           rfl
          have Nf:Hid (bY iC (i:Int) (bq kind) T=T.take k++((i:Int),bq kind)::T.drop k∧true=decide (kind=2)):=⟨hput _,Pw.out.symm⟩
          have i0:(0:Int)≤k:=by omega
          have R8:(k:Int)≤cN:=by omega
          have i2:(k:Int)≤n:=by omega
          have i4:(n:Int)≤cN:=by omega
          have i5:(k:Int)≤cD:=by omega
          have Xc:(n:Int)≤cD:=by omega
          clear a6 b6 s6 d6 a1 b1 s1 d1 h1 h8 hv sZ hlv p0 p1 p2 pf hput hk
          go_upto_region 19 with(fail)
          go_cut [] (fun wx=>bL w3 r (.slice (some ⟨bD,oD,none⟩) n cD) (.slice aE (aU T).length cE) (bY iC (i:Int) (bq kind) T) wx)
          case first=>
           go_wp2
           refine wp_region_noPanic ?_
           refine bW (last:=25) (S:=(fun w'=>w'.cell? ⟨r,0,none⟩=some (.slice (some ⟨bN,oN,none⟩) n cN)∧w'.frozen? ⟨r,0,none⟩=false)) (by kernel_rfl) ?_ (fun hS=> ?_)
           ·exact mV.out _ (Below.refl _ _).drew
           refine aT 0 (hS:=hS) (h:= ?_)
           refine aT 2 (hS:=hS) (h:= ?_)
           refine aT 3 (hS:=hS) (h:= ?_)
           refine aT 4 (hS:=hS) (h:= ?_)
           refine aT 5 (hS:=hS) (h:= ?_)
           refine aT 6 (hS:=hS) (h:= ?_)
           refine aT 7 (hS:=hS) (h:= ?_)
           refine aT 9 (hS:=hS) (h:= ?_)
           refine aT 10 (hS:=hS) (h:= ?_)
           refine aT 11 (hS:=hS) (h:= ?_)
           refine aT 12 (hS:=hS) (h:= ?_)
           refine aT 13 (hS:=hS) (h:= ?_)
           refine aT 16 (hS:=hS) (h:= ?_)
           refine aT 17 (hS:=hS) (h:= ?_)
           refine aT 18 (hS:=hS) (h:= ?_)
           refine aT 19 (hS:=hS) (h:= ?_)
           refine aT 20 (hS:=hS) (h:= ?_)
           refine aT 21 (hS:=hS) (h:= ?_)
           refine au (rs:=[1,14]) (by kernel_rfl) (by simp) ?_
           refine ah.cons (o:= ?o25) ?S_ (fun K hK=> ?wa) (ah.cons (o:= ?o26) ?Ta (fun K hK=> ?wb) ah.nil)
           case S_=>simp only[List.getElem?_toArray,List.getElem?_cons_succ,List.getElem?_cons_zero];rfl
           case Ta=>simp only[List.getElem?_toArray,List.getElem?_cons_succ,List.getElem?_cons_zero];rfl
           case wa=>
            go_simp
            refine hK.out _ _ (fun _=>mV.out _ ((Below.refl _ _).drew.alloc (Nat.le_refl _) _)) (fun hS=> ?_)
            replace hS:=hS (by decide)
            clear hK K
            try simp only[Act.put,List.setIfInBounds_toArray,List.set_cons_zero,List.set_cons_succ]
            refine au (rs:=[8,14]) (by kernel_rfl) (by simp) ?_
            refine ah.cons (o:= ?o27) ?Tc (fun K hK=> ?Gz) (ah.cons (o:= ?o28) ?Td (fun K hK=> ?GA) ah.nil)
            case Tc=>simp only[List.getElem?_toArray,List.getElem?_cons_succ,List.getElem?_cons_zero];rfl
            case Td=>simp only[List.getElem?_toArray,List.getElem?_cons_succ,List.getElem?_cons_zero];rfl
            case Gz=>
             refine av (by rfl) (.tmp 73) (.tmp 79) 99 (by rfl) w3.heap.size 98 _ _ 6 48 Tryz.underlying99 fD.out.1 fD.out.2.1 fD.out.2.2.1 fD.out.2.2.2 rfl (by omega) _ 0 [] (by rfl) (dB (MapKept.heap_alloc w3.drew _).1 (Nat.le_refl _)) _ k _ ((T.take k).flatMap bV) (by rfl) (yE.out _ ((Below.refl _ _).drew.alloc (Nat.le_refl _) _)).1 (dI _) (by unfold maxLen;omega) (by omega) (by simp<;>omega) ?_
             intro A1 c1 u1 hown0 hb1
             have hB0:Below w3.heap.size w3 u1:=((Below.refl _ _).drew.alloc (Nat.le_refl _) _).trans hb1
             refine hK.out _ _ (fun _=>mV.out _ hB0) (fun hS=> ?_)
             replace hS:=hS (by decide)
             clear hK K
             try simp only[Act.put,List.setIfInBounds_toArray,List.set_cons_zero,List.set_cons_succ]
             refine jF 14 (h:=fun K hK=> ?_)
             go_simp
             refine hK.out _ _ (fun _=>mV.out _ (hB0.alloc hB0.size _)) (fun hS=> ?_)
             replace hS:=hS (by decide)
             clear hK K
             try simp only[Act.put,List.setIfInBounds_toArray,List.set_cons_zero,List.set_cons_succ]
             rw[Nat.zero_add]at hown0
             have hown1:=own_below hown0 ((Below.refl _ _).alloc (Nat.le_refl _) (.cells (newC (i:Int) kind true).toArray 98))
             have hrow:=iy (w:=u1) (newC (i:Int) kind true) 98 (by simp[newC,maxLen])
             have hB1:Below w3.heap.size w3 (u1.alloc (.cells (newC (i:Int) kind true).toArray 98)):=hB0.alloc hB0.size _
             refine au (rs:=[15]) (by kernel_rfl) (by simp) ?_
             refine ah.cons (o:= ?o29) ?Te (fun K hK=> ?_) ah.nil
             case Te=>simp only[List.getElem?_toArray,List.getElem?_cons_succ,List.getElem?_cons_zero];rfl
             refine av (by rfl) (.tmp 80) (.tmp 86) 99 (by rfl) w3.heap.size 98 _ _ 6 48 Tryz.underlying99 fD.out.1 fD.out.2.1 fD.out.2.2.1 fD.out.2.2.2 rfl (by omega) _ _ _ (by rfl) hown1 _ 1 _ (newC (i:Int) kind true) (by rfl) hrow (mR _ _ _) (by unfold maxLen;omega) (by omega) hB1.size ?_
             intro A2 c2 u2 hown2 hb2
             have hB2:Below w3.heap.size w3 u2:=hB1.trans hb2
             refine hK.out _ _ (fun _=>mV.out _ hB2) (fun hS=> ?_)
             replace hS:=hS (by decide)
             clear hK K
             try simp only[Act.put,List.setIfInBounds_toArray,List.set_cons_zero,List.set_cons_succ]
             refine au (rs:=[22]) (by kernel_rfl) (by simp) ?_
             refine ah.cons (o:= ?o30) ?Tf (fun K hK=> ?_) ah.nil
             case Tf=>simp only[List.getElem?_toArray,List.getElem?_cons_succ,List.getElem?_cons_zero];rfl
             refine av (by rfl) (.tmp 87) (.tmp 93) 99 (by rfl) w3.heap.size 98 _ _ 6 48 Tryz.underlying99 fD.out.1 fD.out.2.1 fD.out.2.2.1 fD.out.2.2.2 rfl (by omega) _ _ _ (by rfl) hown2 _ (n-k) _ ((T.drop k).flatMap bV) (by rfl) (yE.out _ hB2).2 (dI _) (by unfold maxLen;omega) (by omega) hB2.size ?_
             intro A3 c3 u3 hown3 hb3
             have iQ:Below w3.heap.size w3 u3:=hB2.trans hb3
             refine hK.out _ _ (fun _=>mV.out _ iQ) (fun hS=> ?_)
             replace hS:=hS (by decide)
             clear hK K
             try simp only[Act.put,List.setIfInBounds_toArray,List.set_cons_zero,List.set_cons_succ]
             refine aT 23 (hS:=hS) (h:= ?_)
             refine aT 24 (hS:=hS) (h:= ?_)
             refine jF 25 (h:=fun K hK=> ?_)
             go_simp
             refine hK.out _ _ (fun h=>absurd rfl h) (fun hS=> ?_)
             clear hS hK K
             try simp only[Act.put,List.setIfInBounds_toArray,List.set_cons_zero,List.set_cons_succ]
             refine aV (by kernel_rfl) ?_ _
             refine NoPanic.normal ?_
             go_wp2_with fail
             all_goals (
              go_meet
              exact jT hrw nM.out iQ Nf.out gW.out hkn (by omega) (by simp) hown3 (by unfold maxLen;omega))
            case GA=>
             go_simp
             refine hK.out _ _ (fun _=>mV.out _ (((Below.refl _ _).drew.alloc (Nat.le_refl _) _).alloc (by simp<;>omega) _)) (fun hS=> ?_)
             replace hS:=hS (by decide)
             clear hK K
             try simp only[Act.put,List.setIfInBounds_toArray,List.set_cons_zero,List.set_cons_succ]
             refine au (rs:=[8]) (by kernel_rfl) (by simp) ?_
             refine ah.cons (o:= ?o31) ?Tg (fun K hK=> ?_) ah.nil
             case Tg=>simp only[List.getElem?_toArray,List.getElem?_cons_succ,List.getElem?_cons_zero];rfl
             refine bU (by rfl) (.tmp 73) (.tmp 79) 99 (by rfl) w3.heap.size 98 _ _ 6 48 Tryz.underlying99 fD.out.1 fD.out.2.1 fD.out.2.2.1 fD.out.2.2.2 rfl (by omega) _ 0 [] (by rfl) (dB (dS w3 _ _).1 (Nat.le_refl _)) _ k _ ((T.take k).flatMap bV) (by rfl) (yE.out _ (((Below.refl _ _).drew.alloc (Nat.le_refl _) _).alloc (by simp<;>omega) _)).1 (dI _) (by unfold maxLen;omega) (by omega) (by simp<;>omega) ?_
             intro A1 c1 u1 hown1 hb1 hg1
             have hB1:Below w3.heap.size w3 u1:=(((Below.refl _ _).drew.alloc (Nat.le_refl _) _).alloc (by simp<;>omega) _).trans hb1
             have hrow:=(gV (vs:=(newC (i:Int) kind true)) (dS w3 (.cells #[] 98) (.cells (newC (i:Int) kind true).toArray 98)).2 (by simp[newC,maxLen])).grown hg1 (fun b hb hbw=>by subst hb;simp[Value.ownBlock])
             refine hK.out _ _ (fun _=>mV.out _ hB1) (fun hS=> ?_)
             replace hS:=hS (by decide)
             clear hK K
             try simp only[Act.put,List.setIfInBounds_toArray,List.set_cons_zero,List.set_cons_succ]
             refine au (rs:=[15]) (by kernel_rfl) (by simp) ?_
             refine ah.cons (o:= ?o32) ?Ti (fun K hK=> ?_) ah.nil
             case Ti=>simp only[List.getElem?_toArray,List.getElem?_cons_succ,List.getElem?_cons_zero];rfl
             refine av (by rfl) (.tmp 80) (.tmp 86) 99 (by rfl) w3.heap.size 98 _ _ 6 48 Tryz.underlying99 fD.out.1 fD.out.2.1 fD.out.2.2.1 fD.out.2.2.2 rfl (by omega) _ _ _ (by rfl) hown1 _ 1 _ (newC (i:Int) kind true) (by rfl) hrow (mR _ _ _) (by unfold maxLen;omega) (by omega) hB1.size ?_
             intro A2 c2 u2 hown2 hb2
             have hB2:Below w3.heap.size w3 u2:=hB1.trans hb2
             refine hK.out _ _ (fun _=>mV.out _ hB2) (fun hS=> ?_)
             replace hS:=hS (by decide)
             clear hK K
             try simp only[Act.put,List.setIfInBounds_toArray,List.set_cons_zero,List.set_cons_succ]
             refine au (rs:=[22]) (by kernel_rfl) (by simp) ?_
             refine ah.cons (o:= ?o33) ?Tj (fun K hK=> ?_) ah.nil
             case Tj=>simp only[List.getElem?_toArray,List.getElem?_cons_succ,List.getElem?_cons_zero];rfl
             refine av (by rfl) (.tmp 87) (.tmp 93) 99 (by rfl) w3.heap.size 98 _ _ 6 48 Tryz.underlying99 fD.out.1 fD.out.2.1 fD.out.2.2.1 fD.out.2.2.2 rfl (by omega) _ _ _ (by rfl) hown2 _ (n-k) _ ((T.drop k).flatMap bV) (by rfl) (yE.out _ hB2).2 (dI _) (by unfold maxLen;omega) (by omega) hB2.size ?_
             intro A3 c3 u3 hown3 hb3
             have iQ:Below w3.heap.size w3 u3:=hB2.trans hb3
             refine hK.out _ _ (fun _=>mV.out _ iQ) (fun hS=> ?_)
             replace hS:=hS (by decide)
             clear hK K
             try simp only[Act.put,List.setIfInBounds_toArray,List.set_cons_zero,List.set_cons_succ]
             refine aT 23 (hS:=hS) (h:= ?_)
             refine aT 24 (hS:=hS) (h:= ?_)
             refine jF 25 (h:=fun K hK=> ?_)
             go_simp
             refine hK.out _ _ (fun h=>absurd rfl h) (fun hS=> ?_)
             clear hS hK K
             try simp only[Act.put,List.setIfInBounds_toArray,List.set_cons_zero,List.set_cons_succ]
             refine aV (by kernel_rfl) ?_ _
             refine NoPanic.normal ?_
             go_wp2_with fail
             all_goals (
              go_meet
              exact jT hrw nM.out iQ Nf.out gW.out hkn (by omega) (by simp) hown3 (by unfold maxLen;omega))
           case wb=>
            go_simp
            refine hK.out _ _ (fun _=>mV.out _ ((Below.refl _ _).drew.alloc (Nat.le_refl _) _)) (fun hS=> ?_)
            replace hS:=hS (by decide)
            clear hK K
            try simp only[Act.put,List.setIfInBounds_toArray,List.set_cons_zero,List.set_cons_succ]
            refine jF 1 (h:=fun K hK=> ?_)
            go_simp
            refine hK.out _ _ (fun _=>mV.out _ (((Below.refl _ _).drew.alloc (Nat.le_refl _) _).alloc (by simp<;>omega) _)) (fun hS=> ?_)
            replace hS:=hS (by decide)
            clear hK K
            try simp only[Act.put,List.setIfInBounds_toArray,List.set_cons_zero,List.set_cons_succ]
            refine au (rs:=[8]) (by kernel_rfl) (by simp) ?_
            refine ah.cons (o:= ?o34) ?Tk (fun K hK=> ?_) ah.nil
            case Tk=>simp only[List.getElem?_toArray,List.getElem?_cons_succ,List.getElem?_cons_zero];rfl
            refine bU (by rfl) (.tmp 73) (.tmp 79) 99 (by rfl) w3.heap.size 98 _ _ 6 48 Tryz.underlying99 fD.out.1 fD.out.2.1 fD.out.2.2.1 fD.out.2.2.2 rfl (by omega) _ 0 [] (by rfl) (dB (dS w3 _ _).2 (by omega)) _ k _ ((T.take k).flatMap bV) (by rfl) (yE.out _ (((Below.refl _ _).drew.alloc (Nat.le_refl _) _).alloc (by simp<;>omega) _)).1 (dI _) (by unfold maxLen;omega) (by omega) (by simp<;>omega) ?_
            intro A1 c1 u1 hown1 hb1 hg1
            have hB1:Below w3.heap.size w3 u1:=(((Below.refl _ _).drew.alloc (Nat.le_refl _) _).alloc (by simp<;>omega) _).trans hb1
            have hrow:=(gV (vs:=(newC (i:Int) kind true)) (dS w3 (.cells (newC (i:Int) kind true).toArray 98) (.cells #[] 98)).1 (by simp[newC,maxLen])).grown hg1 (fun b hb hbw=>by subst hb;simp[Value.ownBlock])
            refine hK.out _ _ (fun _=>mV.out _ hB1) (fun hS=> ?_)
            replace hS:=hS (by decide)
            clear hK K
            try simp only[Act.put,List.setIfInBounds_toArray,List.set_cons_zero,List.set_cons_succ]
            refine au (rs:=[15]) (by kernel_rfl) (by simp) ?_
            refine ah.cons (o:= ?o35) ?Tm (fun K hK=> ?_) ah.nil
            case Tm=>simp only[List.getElem?_toArray,List.getElem?_cons_succ,List.getElem?_cons_zero];rfl
            refine av (by rfl) (.tmp 80) (.tmp 86) 99 (by rfl) w3.heap.size 98 _ _ 6 48 Tryz.underlying99 fD.out.1 fD.out.2.1 fD.out.2.2.1 fD.out.2.2.2 rfl (by omega) _ _ _ (by rfl) hown1 _ 1 _ (newC (i:Int) kind true) (by rfl) hrow (mR _ _ _) (by unfold maxLen;omega) (by omega) hB1.size ?_
            intro A2 c2 u2 hown2 hb2
            have hB2:Below w3.heap.size w3 u2:=hB1.trans hb2
            refine hK.out _ _ (fun _=>mV.out _ hB2) (fun hS=> ?_)
            replace hS:=hS (by decide)
            clear hK K
            try simp only[Act.put,List.setIfInBounds_toArray,List.set_cons_zero,List.set_cons_succ]
            refine au (rs:=[22]) (by kernel_rfl) (by simp) ?_
            refine ah.cons (o:= ?o36) ?Tn (fun K hK=> ?_) ah.nil
            case Tn=>simp only[List.getElem?_toArray,List.getElem?_cons_succ,List.getElem?_cons_zero];rfl
            refine av (by rfl) (.tmp 87) (.tmp 93) 99 (by rfl) w3.heap.size 98 _ _ 6 48 Tryz.underlying99 fD.out.1 fD.out.2.1 fD.out.2.2.1 fD.out.2.2.2 rfl (by omega) _ _ _ (by rfl) hown2 _ (n-k) _ ((T.drop k).flatMap bV) (by rfl) (yE.out _ hB2).2 (dI _) (by unfold maxLen;omega) (by omega) hB2.size ?_
            intro A3 c3 u3 hown3 hb3
            have iQ:Below w3.heap.size w3 u3:=hB2.trans hb3
            refine hK.out _ _ (fun _=>mV.out _ iQ) (fun hS=> ?_)
            replace hS:=hS (by decide)
            clear hK K
            try simp only[Act.put,List.setIfInBounds_toArray,List.set_cons_zero,List.set_cons_succ]
            refine aT 23 (hS:=hS) (h:= ?_)
            refine aT 24 (hS:=hS) (h:= ?_)
            refine jF 25 (h:=fun K hK=> ?_)
            go_simp
            refine hK.out _ _ (fun h=>absurd rfl h) (fun hS=> ?_)
            clear hS hK K
            try simp only[Act.put,List.setIfInBounds_toArray,List.set_cons_zero,List.set_cons_succ]
            refine aV (by kernel_rfl) ?_ _
            refine NoPanic.normal ?_
            go_wp2_with fail
            all_goals (
             go_meet
             exact jT hrw nM.out iQ Nf.out gW.out hkn (by omega) (by simp) hown3 (by unfold maxLen;omega))
          case rest=>
           obtain⟨w5,rfl⟩:∃w5:World,w5=wc:=⟨_,rfl⟩
           have HM:=Lib.hid hcut
           obtain⟨hK,-,aM,cM,h5,-,-,-⟩:=hcut
           obtain⟨p0,p1,p2,pf⟩:=eB h5
           have hs1:=hK.size
           have hr1:r<w5.heap.size:=by omega
           have hv1:ak (Off (Grow F w3 w5) r) w5 (some ⟨bD,oD,none⟩) (n*1) vs:=by rw[Nat.mul_one];exact lN hK HV.out
           have lV:Hid (∀w4,Below w5.heap.size w5 w4→w4.cell? ⟨r,1,none⟩=some (.slice (some ⟨bD,oD,none⟩) n cD)∧w4.frozen? ⟨r,1,none⟩=false):=fun w4 hb=>⟨by rw[hb.cell (p:=⟨r,1,none⟩) hr1];exact p1,by rw[hb.frozen (p:=⟨r,1,none⟩) hr1];exact pf 1⟩
           have qo:Hid (∀w4,Below w5.heap.size w5 w4→ak (Off (Grow F w3 w5) r) w4 (some ⟨bD,oD,none⟩) (k*1) (vs.take k)∧ak (Off (Grow F w3 w5) r) w4 (if cD=k then some ⟨bD,oD,none⟩else some ⟨bD,oD+k,none⟩) ((n-k)*1) (vs.drop k)):=fun w4 hb=>by
            have:=qY (c:=cD) hv1 hkn SY hb
            rw[Nat.mul_one]at this
            simpa only[Nat.mul_one]using this
           clear hK h5 p0 p1 p2 pf hv1
           go_upto_region 20 with(fail)
           go_cut [] (fun wx=>dh F w3 r (bY iC (i:Int) (bq kind) T) ((bY iC (i:Int) (bq kind) T).map fun q=>q.2.b) (aU T) (.tuple #[]) (.returned (.tuple #[])) wx)
           case first=>
            go_wp2
            refine wp_region_noPanic ?_
            refine bW (last:=20) (S:=(fun w'=>w'.cell? ⟨r,1,none⟩=some (.slice (some ⟨bD,oD,none⟩) n cD)∧w'.frozen? ⟨r,1,none⟩=false)) (by kernel_rfl) ?_ (fun hS=> ?_)
            ·exact lV.out _ (Below.refl _ _).drew
            refine aT 0 (hS:=hS) (h:= ?_)
            refine aT 2 (hS:=hS) (h:= ?_)
            refine aT 3 (hS:=hS) (h:= ?_)
            refine aT 4 (hS:=hS) (h:= ?_)
            refine aT 5 (hS:=hS) (h:= ?_)
            refine aT 6 (hS:=hS) (h:= ?_)
            refine aT 7 (hS:=hS) (h:= ?_)
            refine aT 11 (hS:=hS) (h:= ?_)
            refine aT 12 (hS:=hS) (h:= ?_)
            refine aT 13 (hS:=hS) (h:= ?_)
            refine aT 14 (hS:=hS) (h:= ?_)
            refine aT 15 (hS:=hS) (h:= ?_)
            refine aT 16 (hS:=hS) (h:= ?_)
            refine au (rs:=[1,9]) (by kernel_rfl) (by simp) ?_
            refine ah.cons (o:= ?o37) ?Tp (fun K hK=> ?wa) (ah.cons (o:= ?o38) ?Tq (fun K hK=> ?wb) ah.nil)
            case Tp=>simp only[List.getElem?_toArray,List.getElem?_cons_succ,List.getElem?_cons_zero];rfl
            case Tq=>simp only[List.getElem?_toArray,List.getElem?_cons_succ,List.getElem?_cons_zero];rfl
            case wa=>
             go_simp
             refine hK.out _ _ (fun _=>lV.out _ ((Below.refl _ _).drew.alloc (Nat.le_refl _) _)) (fun hS=> ?_)
             replace hS:=hS (by decide)
             clear hK K
             try simp only[Act.put,List.setIfInBounds_toArray,List.set_cons_zero,List.set_cons_succ]
             refine au (rs:=[8,9]) (by kernel_rfl) (by simp) ?_
             refine ah.cons (o:= ?o39) ?Tt (fun K hK=> ?Gz) (ah.cons (o:= ?o40) ?Tv (fun K hK=> ?GA) ah.nil)
             case Tt=>simp only[List.getElem?_toArray,List.getElem?_cons_succ,List.getElem?_cons_zero];rfl
             case Tv=>simp only[List.getElem?_toArray,List.getElem?_cons_succ,List.getElem?_cons_zero];rfl
             case Gz=>
              refine av (by rfl) (.tmp 98) (.tmp 104) 86 (by rfl) w5.heap.size 39 _ _ 1 24 Tryz.underlying86 HI1.out.1 HI1.out.2.1 HI1.out.2.2.1 HI1.out.2.2.2 rfl (by omega) _ 0 [] (by rfl) (dB (MapKept.heap_alloc w5.drew _).1 (Nat.le_refl _)) _ k _ (vs.take k) (by rfl) (qo.out _ ((Below.refl _ _).drew.alloc (Nat.le_refl _) _)).1 nN.out.1 (by unfold maxLen;omega) (by omega) (by simp<;>omega) ?_
              intro A1 c1 u1 hown0 hb1
              have hB0:Below w5.heap.size w5 u1:=((Below.refl _ _).drew.alloc (Nat.le_refl _) _).trans hb1
              refine hK.out _ _ (fun _=>lV.out _ hB0) (fun hS=> ?_)
              replace hS:=hS (by decide)
              clear hK K
              try simp only[Act.put,List.setIfInBounds_toArray,List.set_cons_zero,List.set_cons_succ]
              refine jF 9 (h:=fun K hK=> ?_)
              go_simp
              refine hK.out _ _ (fun _=>lV.out _ (hB0.alloc hB0.size _)) (fun hS=> ?_)
              replace hS:=hS (by decide)
              clear hK K
              try simp only[Act.put,List.setIfInBounds_toArray,List.set_cons_zero,List.set_cons_succ]
              rw[Nat.zero_add]at hown0
              have hown1:=own_below hown0 ((Below.refl _ _).alloc (Nat.le_refl _) (.cells [Value.slice none 0 0].toArray 39))
              have hrow:=iy (w:=u1) [Value.slice none 0 0] 39 (by simp[newC,maxLen])
              have hB1:Below w5.heap.size w5 (u1.alloc (.cells [Value.slice none 0 0].toArray 39)):=hB0.alloc hB0.size _
              refine au (rs:=[10]) (by kernel_rfl) (by simp) ?_
              refine ah.cons (o:= ?o41) ?Tw (fun K hK=> ?_) ah.nil
              case Tw=>simp only[List.getElem?_toArray,List.getElem?_cons_succ,List.getElem?_cons_zero];rfl
              refine av (by rfl) (.tmp 105) (.tmp 106) 86 (by rfl) w5.heap.size 39 _ _ 1 24 Tryz.underlying86 HI1.out.1 HI1.out.2.1 HI1.out.2.2.1 HI1.out.2.2.2 rfl (by omega) _ _ _ (by rfl) hown1 _ 1 _ [Value.slice none 0 0] (by rfl) hrow (by intro u hu;simp only[List.mem_singleton]at hu;subst hu;rfl) (by unfold maxLen;omega) (by omega) hB1.size ?_
              intro A2 c2 u2 hown2 hb2
              have hB2:Below w5.heap.size w5 u2:=hB1.trans hb2
              refine hK.out _ _ (fun _=>lV.out _ hB2) (fun hS=> ?_)
              replace hS:=hS (by decide)
              clear hK K
              try simp only[Act.put,List.setIfInBounds_toArray,List.set_cons_zero,List.set_cons_succ]
              refine au (rs:=[17]) (by kernel_rfl) (by simp) ?_
              refine ah.cons (o:= ?o42) ?Tx (fun K hK=> ?_) ah.nil
              case Tx=>simp only[List.getElem?_toArray,List.getElem?_cons_succ,List.getElem?_cons_zero];rfl
              refine av (by rfl) (.tmp 107) (.tmp 113) 86 (by rfl) w5.heap.size 39 _ _ 1 24 Tryz.underlying86 HI1.out.1 HI1.out.2.1 HI1.out.2.2.1 HI1.out.2.2.2 rfl (by omega) _ _ _ (by rfl) hown2 _ (n-k) _ (vs.drop k) (by rfl) (qo.out _ hB2).2 nN.out.2 (by unfold maxLen;omega) (by omega) hB2.size ?_
              intro A3 c3 u3 hown3 hb3
              have iQ:Below w5.heap.size w5 u3:=hB2.trans hb3
              refine hK.out _ _ (fun _=>lV.out _ iQ) (fun hS=> ?_)
              replace hS:=hS (by decide)
              clear hK K
              try simp only[Act.put,List.setIfInBounds_toArray,List.set_cons_zero,List.set_cons_succ]
              refine aT 18 (hS:=hS) (h:= ?_)
              refine aT 19 (hS:=hS) (h:= ?_)
              refine jF 20 (h:=fun K hK=> ?_)
              go_simp
              refine hK.out _ _ (fun h=>absurd rfl h) (fun hS=> ?_)
              clear hS hK K
              try simp only[Act.put,List.setIfInBounds_toArray,List.set_cons_zero,List.set_cons_succ]
              refine aV (by kernel_rfl) ?_ _
              refine NoPanic.normal ?_
              go_wp2_with fail
              all_goals (
               go_meet
               exact kW HR3.out nM.out HM.out iQ E8.out hkn CY.out Kr.out (by omega) (by simp) hown3 (by unfold maxLen;omega))
             case GA=>
              go_simp
              refine hK.out _ _ (fun _=>lV.out _ (((Below.refl _ _).drew.alloc (Nat.le_refl _) _).alloc (by simp<;>omega) _)) (fun hS=> ?_)
              replace hS:=hS (by decide)
              clear hK K
              try simp only[Act.put,List.setIfInBounds_toArray,List.set_cons_zero,List.set_cons_succ]
              refine au (rs:=[8]) (by kernel_rfl) (by simp) ?_
              refine ah.cons (o:= ?o43) ?Tz (fun K hK=> ?_) ah.nil
              case Tz=>simp only[List.getElem?_toArray,List.getElem?_cons_succ,List.getElem?_cons_zero];rfl
              refine bU (by rfl) (.tmp 98) (.tmp 104) 86 (by rfl) w5.heap.size 39 _ _ 1 24 Tryz.underlying86 HI1.out.1 HI1.out.2.1 HI1.out.2.2.1 HI1.out.2.2.2 rfl (by omega) _ 0 [] (by rfl) (dB (dS w5 _ _).1 (Nat.le_refl _)) _ k _ (vs.take k) (by rfl) (qo.out _ (((Below.refl _ _).drew.alloc (Nat.le_refl _) _).alloc (by simp<;>omega) _)).1 nN.out.1 (by unfold maxLen;omega) (by omega) (by simp<;>omega) ?_
              intro A1 c1 u1 hown1 hb1 hg1
              have hB1:Below w5.heap.size w5 u1:=(((Below.refl _ _).drew.alloc (Nat.le_refl _) _).alloc (by simp<;>omega) _).trans hb1
              have hrow:=(gV (vs:=[Value.slice none 0 0]) (dS w5 (.cells #[] 39) (.cells [Value.slice none 0 0].toArray 39)).2 (by simp[newC,maxLen])).grown hg1 (fun b hb hbw=>by subst hb;simp[Value.ownBlock])
              refine hK.out _ _ (fun _=>lV.out _ hB1) (fun hS=> ?_)
              replace hS:=hS (by decide)
              clear hK K
              try simp only[Act.put,List.setIfInBounds_toArray,List.set_cons_zero,List.set_cons_succ]
              refine au (rs:=[10]) (by kernel_rfl) (by simp) ?_
              refine ah.cons (o:= ?o44) ?TA (fun K hK=> ?_) ah.nil
              case TA=>simp only[List.getElem?_toArray,List.getElem?_cons_succ,List.getElem?_cons_zero];rfl
              refine av (by rfl) (.tmp 105) (.tmp 106) 86 (by rfl) w5.heap.size 39 _ _ 1 24 Tryz.underlying86 HI1.out.1 HI1.out.2.1 HI1.out.2.2.1 HI1.out.2.2.2 rfl (by omega) _ _ _ (by rfl) hown1 _ 1 _ [Value.slice none 0 0] (by rfl) hrow (by intro u hu;simp only[List.mem_singleton]at hu;subst hu;rfl) (by unfold maxLen;omega) (by omega) hB1.size ?_
              intro A2 c2 u2 hown2 hb2
              have hB2:Below w5.heap.size w5 u2:=hB1.trans hb2
              refine hK.out _ _ (fun _=>lV.out _ hB2) (fun hS=> ?_)
              replace hS:=hS (by decide)
              clear hK K
              try simp only[Act.put,List.setIfInBounds_toArray,List.set_cons_zero,List.set_cons_succ]
              refine au (rs:=[17]) (by kernel_rfl) (by simp) ?_
              refine ah.cons (o:= ?o45) ?TB (fun K hK=> ?_) ah.nil
              case TB=>simp only[List.getElem?_toArray,List.getElem?_cons_succ,List.getElem?_cons_zero];rfl
              refine av (by rfl) (.tmp 107) (.tmp 113) 86 (by rfl) w5.heap.size 39 _ _ 1 24 Tryz.underlying86 HI1.out.1 HI1.out.2.1 HI1.out.2.2.1 HI1.out.2.2.2 rfl (by omega) _ _ _ (by rfl) hown2 _ (n-k) _ (vs.drop k) (by rfl) (qo.out _ hB2).2 nN.out.2 (by unfold maxLen;omega) (by omega) hB2.size ?_
              intro A3 c3 u3 hown3 hb3
              have iQ:Below w5.heap.size w5 u3:=hB2.trans hb3
              refine hK.out _ _ (fun _=>lV.out _ iQ) (fun hS=> ?_)
              replace hS:=hS (by decide)
              clear hK K
              try simp only[Act.put,List.setIfInBounds_toArray,List.set_cons_zero,List.set_cons_succ]
              refine aT 18 (hS:=hS) (h:= ?_)
              refine aT 19 (hS:=hS) (h:= ?_)
              refine jF 20 (h:=fun K hK=> ?_)
              go_simp
              refine hK.out _ _ (fun h=>absurd rfl h) (fun hS=> ?_)
              clear hS hK K
              try simp only[Act.put,List.setIfInBounds_toArray,List.set_cons_zero,List.set_cons_succ]
              refine aV (by kernel_rfl) ?_ _
              refine NoPanic.normal ?_
              go_wp2_with fail
              all_goals (
               go_meet
               exact kW HR3.out nM.out HM.out iQ E8.out hkn CY.out Kr.out (by omega) (by simp) hown3 (by unfold maxLen;omega))
            case wb=>
             go_simp
             refine hK.out _ _ (fun _=>lV.out _ ((Below.refl _ _).drew.alloc (Nat.le_refl _) _)) (fun hS=> ?_)
             replace hS:=hS (by decide)
             clear hK K
             try simp only[Act.put,List.setIfInBounds_toArray,List.set_cons_zero,List.set_cons_succ]
             refine jF 1 (h:=fun K hK=> ?_)
             go_simp
             refine hK.out _ _ (fun _=>lV.out _ (((Below.refl _ _).drew.alloc (Nat.le_refl _) _).alloc (by simp<;>omega) _)) (fun hS=> ?_)
             replace hS:=hS (by decide)
             clear hK K
             try simp only[Act.put,List.setIfInBounds_toArray,List.set_cons_zero,List.set_cons_succ]
             refine au (rs:=[8]) (by kernel_rfl) (by simp) ?_
             refine ah.cons (o:= ?o46) ?TD (fun K hK=> ?_) ah.nil
             case TD=>simp only[List.getElem?_toArray,List.getElem?_cons_succ,List.getElem?_cons_zero];rfl
             refine bU (by rfl) (.tmp 98) (.tmp 104) 86 (by rfl) w5.heap.size 39 _ _ 1 24 Tryz.underlying86 HI1.out.1 HI1.out.2.1 HI1.out.2.2.1 HI1.out.2.2.2 rfl (by omega) _ 0 [] (by rfl) (dB (dS w5 _ _).2 (by omega)) _ k _ (vs.take k) (by rfl) (qo.out _ (((Below.refl _ _).drew.alloc (Nat.le_refl _) _).alloc (by simp<;>omega) _)).1 nN.out.1 (by unfold maxLen;omega) (by omega) (by simp<;>omega) ?_
             intro A1 c1 u1 hown1 hb1 hg1
             have hB1:Below w5.heap.size w5 u1:=(((Below.refl _ _).drew.alloc (Nat.le_refl _) _).alloc (by simp<;>omega) _).trans hb1
             have hrow:=(gV (vs:=[Value.slice none 0 0]) (dS w5 (.cells [Value.slice none 0 0].toArray 39) (.cells #[] 39)).1 (by simp[newC,maxLen])).grown hg1 (fun b hb hbw=>by subst hb;simp[Value.ownBlock])
             refine hK.out _ _ (fun _=>lV.out _ hB1) (fun hS=> ?_)
             replace hS:=hS (by decide)
             clear hK K
             try simp only[Act.put,List.setIfInBounds_toArray,List.set_cons_zero,List.set_cons_succ]
             refine au (rs:=[10]) (by kernel_rfl) (by simp) ?_
             refine ah.cons (o:= ?o47) ?TF (fun K hK=> ?_) ah.nil
             case TF=>simp only[List.getElem?_toArray,List.getElem?_cons_succ,List.getElem?_cons_zero];rfl
             refine av (by rfl) (.tmp 105) (.tmp 106) 86 (by rfl) w5.heap.size 39 _ _ 1 24 Tryz.underlying86 HI1.out.1 HI1.out.2.1 HI1.out.2.2.1 HI1.out.2.2.2 rfl (by omega) _ _ _ (by rfl) hown1 _ 1 _ [Value.slice none 0 0] (by rfl) hrow (by intro u hu;simp only[List.mem_singleton]at hu;subst hu;rfl) (by unfold maxLen;omega) (by omega) hB1.size ?_
             intro A2 c2 u2 hown2 hb2
             have hB2:Below w5.heap.size w5 u2:=hB1.trans hb2
             refine hK.out _ _ (fun _=>lV.out _ hB2) (fun hS=> ?_)
             replace hS:=hS (by decide)
             clear hK K
             try simp only[Act.put,List.setIfInBounds_toArray,List.set_cons_zero,List.set_cons_succ]
             refine au (rs:=[17]) (by kernel_rfl) (by simp) ?_
             refine ah.cons (o:= ?o48) ?TG (fun K hK=> ?_) ah.nil
             case TG=>simp only[List.getElem?_toArray,List.getElem?_cons_succ,List.getElem?_cons_zero];rfl
             refine av (by rfl) (.tmp 107) (.tmp 113) 86 (by rfl) w5.heap.size 39 _ _ 1 24 Tryz.underlying86 HI1.out.1 HI1.out.2.1 HI1.out.2.2.1 HI1.out.2.2.2 rfl (by omega) _ _ _ (by rfl) hown2 _ (n-k) _ (vs.drop k) (by rfl) (qo.out _ hB2).2 nN.out.2 (by unfold maxLen;omega) (by omega) hB2.size ?_
             intro A3 c3 u3 hown3 hb3
             have iQ:Below w5.heap.size w5 u3:=hB2.trans hb3
             refine hK.out _ _ (fun _=>lV.out _ iQ) (fun hS=> ?_)
             replace hS:=hS (by decide)
             clear hK K
             try simp only[Act.put,List.setIfInBounds_toArray,List.set_cons_zero,List.set_cons_succ]
             refine aT 18 (hS:=hS) (h:= ?_)
             refine aT 19 (hS:=hS) (h:= ?_)
             refine jF 20 (h:=fun K hK=> ?_)
             go_simp
             refine hK.out _ _ (fun h=>absurd rfl h) (fun hS=> ?_)
             clear hS hK K
             try simp only[Act.put,List.setIfInBounds_toArray,List.set_cons_zero,List.set_cons_succ]
             refine aV (by kernel_rfl) ?_ _
             refine NoPanic.normal ?_
             go_wp2_with fail
             all_goals (
              go_meet
              exact kW HR3.out nM.out HM.out iQ E8.out hkn CY.out Kr.out (by omega) (by simp) hown3 (by unfold maxLen;omega))
           case rest=>
            obtain⟨w6,rfl⟩:∃w6:World,w6=wc:=⟨_,rfl⟩
            rw[←vD EZ.out]at hcut
            have vI:Hid (bA F w3 r (bY iC (i:Int) (bq kind) T) (.tuple #[]) (.returned (.tuple #[])) w6):=hcut
            have HAD:=Lib.hid (qR d2 n2 i x2 w6 vI.out.2.2 Aa.out z_.out.1 z_.out.2)
            clear hcut
            go_wp2_with fail
            (with_reducible refine HAD.out.mono ?_)
            rintro e w7 G8
            have JV:=Lib.hid G8
            obtain rfl:=G8.1
            clear G8
            go_wp2_with fail
            go_ret2
            rw[HQ.out]
            exact(dh.behind HH.out.low HB3.out (vI.out.trans HR3.out.low JV.out)).val _
   ·rw[if_pos h3]at hme
    have HQ:=Lib.hid (mQ hme h3)
    generalize aC T ls=pl at*
    obtain⟨d2,n2,e2⟩:=pl
    simp only at h3 HQ H3
    have hne:(e2==0)=false:=by simpa using h3
    have hne2:(e2 !=0)=true:=by simpa using h3
    clear h hT hS hE h3 hme h0 hkk hkb Kq hc
    cases kb
    all_goals (
     go_enter Tryz.func13,Tryz.ntmps13
     go_wp2_with fail
     (with_reducible refine H1.out.mono ?_)
     rintro e w1 ⟨rfl,hb1⟩
     have HB1:=Lib.hid hb1
     clear hb1
     go_wp2_with fail
     (with_reducible refine(H3.out w1 HB1.out).mono ?_)
     rintro e w3 ⟨rfl,hb3⟩
     have HB3:=Lib.hid (HB1.out.trans (hb3.mono HB1.out.size))
     clear hb3
     go_wp2_with fail
     go_ret2
     exact bA.He HH.out HB3.out HQ.out)
  ·have HQ:=Lib.hid (mQ (v:=30) (T:=T) (p:=ls) (kind:=kind) (by unfold iH;rw[h0,if_neg (by simp),if_pos hkk]) (by omega))
   have hb1:(kind !=1)=true:=by simp;omega
   have hb2:(kind !=2)=true:=by simp;omega
   clear h hT hS hE h0 hkk hc
   go_enter Tryz.func13,Tryz.ntmps13
   go_wp2_with fail
   (with_reducible refine H1.out.mono ?_)
   rintro e w1 ⟨rfl,hb1⟩
   have HB1:=Lib.hid hb1
   clear hb1
   go_wp2_with fail
   go_ret2
   exact bA.He HH.out HB1.out HQ.out
 ·have HQ:=Lib.hid (mQ (v:=bO ls) (T:=T) (p:=ls) (kind:=kind) (by unfold iH;rw[if_pos h0]) h0)
  generalize bO ls=f0 at*
  have hne:(f0==0)=false:=by simpa using h0
  have hne2:(f0 !=0)=true:=by simpa using h0
  clear h hT hS hE h0 hc
  go_enter Tryz.func13,Tryz.ntmps13
  go_wp2_with fail
  (with_reducible refine H1.out.mono ?_)
  rintro e w1 ⟨rfl,hb1⟩
  have HB1:=Lib.hid hb1
  clear hb1
  go_wp2_with fail
  go_ret2
  exact bA.He HH.out HB1.out HQ.out
end
end Go.Proofs.YtohpcppeajijnaaGreat
