/- The reference: Make. -/
import Derived.Test.YtohpcppeajijnaaGreatM33
namespace Go.Proofs.YtohpcppeajijnaaGreat
open Go.ChangeShapes Go.WideShapes Go.ChangeAt Go.RowKit
set_option linter.unusedVariables false
set_option linter.unusedSimpArgs false
theorem ny {T:aI} {p:List Nm} {kind v:Int} (h:iA T p kind=v) (hv:v≠0):dw T p kind=((0,v),T):=by
 unfold dw
 rw[h,if_neg hv]
def newC (f kind:Int) (kb:Bool):List Value:=[.int .i64 f, .int .i64 kind, .int .i64 1, .int .i64 0, .int .u64 0, .bool kb]
theorem nA (f kind:Int) (kb:Bool):∀u∈newC f kind kb,u.oneCell'=true:=by
 intro u hu
 simp only[newC,List.mem_cons,List.not_mem_nil,or_false]at hu
 rcases hu with rfl|rfl|rfl|rfl|rfl|rfl<;>rfl
def uf (T:aI) (f:Int) (w:World) (v:Value) (wx:World):Prop:=
 ∃k:Nat,k≤T.length∧v= .int .i64 k∧(∀x,bP gL f x T=T.take k++(f,x)::T.drop k)∧w=wx
theorem uf.of {T:aI} {f:Int} {w:World} {k:Nat} (hs:aJ gL T) (hf:aF f T=none) (hk:k≤T.length) (ha:(T.take k).all (fun q=>decide (q.1<f))=true) (hx:∀q,T[k]? =some q→decide (q.1<f)=false):uf T f w (.int .i64 k) w:=by
 refine⟨k,hk,rfl,fun x=> ?_,rfl⟩
 obtain⟨h1,h2⟩:=qA ha hx hk
 rw[PL hs x hf,h1,h2]
theorem jN {w u:World} {r:Nat} {x0 x1 x2:Value} {T T':aI} {f kind:Int} {kb:Bool} {k m n c:Nat} {A:Option Addr} {ys:List Value} (hr:r<w.heap.size) (h1:w.heap[r]? =some (.cells #[x0,x1,x2] 102 (0,0))) (hB:Below w.heap.size w u)
  (hT':T'=T.take k++(f,aX kind)::T.drop k∧kb=decide (kind=2)) (hn:n=T.length) (hk:k≤n) (hmk:m=k) (hys:ys=(T.take k).flatMap bA)
  (hown:u.ownsRow w.heap.size 98 6 (.slice A (m+1+(n-k)) c) (m+1+(n-k)) ((ys++newC f kind kb)++(T.drop k).flatMap bA)) (hm:(m+1+(n-k))*6≤maxLen):
  bq w r x1 x2 T' (u.setCell ⟨r,0,none⟩ (.slice A (k+1+(n-k)) c)):=by
 subst hmk hys
 obtain⟨hT',hkb⟩:=hT'
 have hlen:T'.length=m+1+(n-m):=by rw[hT'];simp;omega
 obtain⟨-,hcc,-,hrow2⟩:=mF (w:=w) hown hm (Nat.le_refl _)
 rw[←hlen]at hcc hrow2⊢
 have e6:T'.flatMap bA=((T.take m).flatMap bA++newC f kind kb)++(T.drop m).flatMap bA:=by
  rw[hT',hkb]
  simp only[List.flatMap_append,List.flatMap_cons,List.append_assoc]
  rfl
 rw[←e6]at hrow2
 exact bq.RG hr h1 hB hcc hrow2 (jM hown)
theorem Each.ins {F:Nat→Prop} {w:World} {vs:List Value} {bs:List (List UInt8)} (h:Each F w vs bs) (hl:vs.length=bs.length) (k:Nat) (hk:k≤bs.length):Each F w ((vs.take k++[Value.slice none 0 0])++vs.drop k) (bs.take k++[]::bs.drop k):=by
 intro i b hb
 rw[List.append_assoc]
 by_cases hi:i<k
 ·rw[List.getElem?_append_left (by rw[List.length_take];omega),List.getElem?_take,if_pos hi]at hb⊢
  exact h i b hb
 ·rw[List.getElem?_append_right (by rw[List.length_take];omega),List.length_take]at hb⊢
  rw[hl]
  have e1:min k bs.length=k:=by omega
  rw[e1]at hb⊢
  obtain⟨j,hj⟩:∃j,i-k=j:=⟨_,rfl⟩
  rw[hj]at hb⊢
  cases j with
  |zero=>
   simp only[List.getElem?_cons_zero,Option.some.injEq]at hb
   subst hb
   exact⟨none,0,rfl,⟨Nat.le_refl _,by simp[maxLen]⟩,ak.nil _ _ _⟩
  |succ j=>
   simp only[List.singleton_append,List.getElem?_cons_succ,List.getElem?_drop]at hb⊢
   exact h _ b hb
theorem kW {F:Nat→Prop} {w w1 u:World} {r:Nat} {x0 x1 x2:Value} {T T':aI} {D D':List (List UInt8)} {E:List iw} {k m n c:Nat} {A:Option Addr} {vs ys:List Value} (h:eX F w r T D E) (h1:w.heap[r]? =some (.cells #[x0,x1,x2] 102 (0,0))) (hm:bq w r x1 x2 T' w1) (hB:Below w1.heap.size w1 u)
  (hD':D'=D.take k++[]::D.drop k∧D.length=n) (hk:k≤n) (he:Each (Off F r) w vs D) (hvl:vs.length=n) (hmk:m=k) (hys:ys=vs.take k)
  (hown:u.ownsRow w1.heap.size 39 1 (.slice A (m+1+(n-k)) c) (m+1+(n-k)) ((ys++[Value.slice none 0 0])++vs.drop k)) (hmx:(m+1+(n-k))*1≤maxLen):
  cu F w r T' D' E (.tuple #[]) (.returned (.tuple #[])) (u.setCell ⟨r,1,none⟩ (.slice A (k+1+(n-k)) c)):=by
 subst hmk hys
 obtain⟨hD',hDn⟩:=hD'
 have hlen:D'.length=m+1+(n-m):=by rw[hD'];simp;omega
 have hs1:=hm.1.size
 obtain⟨-,hcc,-,hrow2⟩:=mF (w:=w) hown hmx hs1
 rw[Nat.mul_one]at hrow2
 rw[←hlen]at hcc hrow2⊢
 have hb2:=hB.size
 refine eX.yG h h1 hm hB hcc hrow2 ?_ (.tuple #[])
 rw[hD']
 exact(Each.ins he (by omega) m (by omega)).move (by omega) fun b hb hbw=>⟨⟨.inl hb.1,hb.2⟩,(hB.block b (by omega)).trans (hm.1.block b hbw hb.2)⟩
theorem rP {F:Nat→Prop} {w w1:World} {b off n c k s:Nat} {vs:List Value} (h:ak F w (some ⟨b,off,none⟩) (n*s) vs) (hk:k≤n) (hcn:n≤c) (hb:Below w.heap.size w w1):
  ak F w1 (some ⟨b,off,none⟩) (k*s) (vs.take (k*s))∧ak F w1 (if c=k then some ⟨b,off,none⟩else some ⟨b,off+k*s,none⟩) ((n-k)*s) (vs.drop (k*s)):=by
 have h1:=h.below hb (Nat.le_refl _)
 have h2:=h1.take (k*s)
 have hks:k*s≤n*s:=Nat.mul_le_mul_right s (by omega)
 rw[Nat.min_eq_right hks]at h2
 have h4:=h1.drop (k*s)
 rw[←Nat.sub_mul]at h4
 refine⟨h2,?_⟩
 by_cases hce:c=k
 ·rw[if_pos hce]
  have hl:=h.length
  have hkn:k=n:=by omega
  exact ak.zero _ _ _ (by rw[show n-k=0 by omega,Nat.zero_mul]) (by rw[hkn];exact List.drop_of_length_le (by omega))
 ·rw[if_neg hce];exact h4
section
variable {F:Nat→Prop} {r:Nat} {T:aI}
theorem dJ.Km {w w':World} {v:Int} (h:jr F w r T) (hb:Below w.heap.size w w') {q:(Int×Int)×aI} (hq:q=((0,v),T)):dJ F w r q.2 (.tuple #[.int .i64 q.1.1, .int .i64 q.1.2]) (.returned (.tuple #[.int .i64 0, .int .i64 v])) w':=by
 rw[hq]
 exact cu.same h hb
set_option maxRecDepth 100000 in
set_option maxHeartbeats 16000000 in
theorem Gc {S:Nat→Prop} (a:Option Addr) (n0 c0:Nat) (ls:List Nm) (kind:Int) (w:World) (h:jr F w r T) (hT:dR T) (hS:aW S w a n0 (ls.map strOf)) (hc:n0≤c0) (pE:n0≤1000000):
  Calls Tryz.prog 13 #[ptr r, .slice a n0 c0, .int .i64 kind] w (dJ F w r (dw T ls kind).2 (.tuple #[.int .i64 (dw T ls kind).1.1, .int .i64 (dw T ls kind).1.2])):=by
 have hE:(aQ T).length≤1000000:=by have:=lG hT;omega
 have H1:=Lib.hid (wh a n0 c0 ls w hS)
 have H3:=Lib.hid (fun w1 (hb:Below w.heap.size w w1)=>wE a n0 c0 ls w1 (h.below hb (Nat.le_refl _)) hT hE (hS.below hb (Nat.le_refl _)) hc pE)
 have H5:=Lib.hid (fun w1 (hb:Below w.heap.size w w1) d nm=>nK d nm w1 (h.below hb (Nat.le_refl _)) hE)
 have HH:=Lib.hid h
 have HT:=Lib.hid hT
 have hr0:=h.low r h.own
 by_cases h0:bV ls=0
 ·rw[h0]at H1
  by_cases hkk:kind=1∨kind=2
  ·obtain⟨kb,hkb⟩:∃kb:Bool,(kind==2)=kb:=⟨_,rfl⟩
   have xD:(kind !=1&&kind !=2)=false:=by rcases hkk with rfl|rfl<;>rfl
   have hme:iA T ls kind=if (aV T ls).2.2≠0 then(aV T ls).2.2 else if (aF (aV T ls).2.1 (mJ T (aV T ls).1)).isSome then 21 else if 64≤T.length then 4 else 0:=by
    unfold iA
    rw[h0,if_neg (by simp),if_neg (fun hh=>hh hkk)]
   have hb1:(kind !=1)=kb:=by rw[←hkb];rcases hkk with rfl|rfl<;>rfl
   have hb2:(kind !=2)= !kb:=by rw[←hkb];rfl
   have HKB:Hid (kb=decide (kind=2)):=by
    show kb=decide (kind=2)
    rw[←hkb]
    rcases hkk with rfl|rfl<;>rfl
   by_cases h3:(aV T ls).2.2=0
   ·have hpl:aV T ls=((aV T ls).1,(aV T ls).2.1,0):=Prod.ext rfl (Prod.ext rfl h3)
    obtain⟨x2,hx2,PX,-⟩:=lT hT h3
    rw[if_neg (by rw[h3];simp)]at hme
    obtain⟨d2,hd2⟩:∃d2,d2=(aV T ls).1:=⟨_,rfl⟩
    obtain⟨n2,hn2⟩:∃n2,n2=(aV T ls).2.1:=⟨_,rfl⟩
    rw[←hd2,←hn2]at hpl hme
    rw[←hd2]at hx2
    rw[hpl]at H3
    simp only at H3
    rw[Fp hx2]at hme
    have Kh:=Lib.hid (fun w1 hb=>H5.out w1 hb d2 n2)
    clear h3 hd2 hn2
    cases hn:aF n2 x2.names with
    |some j=>
     obtain⟨m,hm1,hm2⟩:=Ba hT.touK hx2 hn
     rw[hm1]at Kh
     rw[hn]at hme
     have m0:¬(m:Int)<0:=by omega
     have m1:(0:Int)≤m:=by omega
     have HQ:=Lib.hid (ny (hme.trans (if_pos rfl)) (by omega))
     clear h hT hS hE H5 hpl hx2 PX hme hn hm1 hm2 h0 hkk hkb xD hc
     cases kb
     all_goals (
      go_enter Tryz.func13,Tryz.ntmps13
      go_wp2_with fail
      (with_reducible refine H1.out.mono ?_)
      rintro e w1 ⟨rfl,hb1⟩
      have HB1:=Lib.hid hb1
      clear hb1
      go_wp2_with fail
      (with_reducible refine(H3.out w1 HB1.out).mono ?_)
      rintro e w3 ⟨rfl,hb3⟩
      have HB3:=Lib.hid (HB1.out.trans (hb3.mono HB1.out.size))
      clear hb3
      go_wp2_with fail
      (with_reducible refine(Kh.out w3 HB3.out).mono ?_)
      rintro e w4 ⟨rfl,rfl⟩
      go_wp2_with fail
      go_ret2
      exact dJ.Km HH.out HB3.out HQ.out)
    |none=>
     rw[A_ hT.sorted hx2 hn]at Kh
     rw[hn]at hme
     rw[if_neg (by simp)]at hme
     by_cases h64:64≤T.length
     ·have HQ:=Lib.hid (ny (hme.trans (if_pos h64)) (by omega))
      obtain⟨tl,htl⟩:∃tl,tl=T.length:=⟨_,rfl⟩
      have El:=Lib.hid htl
      have OU:decide (64≤tl)=true:=by rw[htl];simpa using h64
      have TH:decide ((64:Int)≤(tl:Int))=true:=by rw[htl];simp;omega
      clear h hT hS hE H5 hpl hx2 PX hme hn h0 hkk hkb xD hc h64 htl
      cases kb
      all_goals (
       go_enter Tryz.func13,Tryz.ntmps13
       go_wp2_with fail
       (with_reducible refine H1.out.mono ?_)
       rintro e w1 ⟨rfl,hb1⟩
       have HB1:=Lib.hid hb1
       clear hb1
       go_wp2_with fail
       (with_reducible refine(H3.out w1 HB1.out).mono ?_)
       rintro e w3 ⟨rfl,hb3⟩
       have HB3:=Lib.hid (HB1.out.trans (hb3.mono HB1.out.size))
       clear hb3
       go_wp2_with fail
       (with_reducible refine(Kh.out w3 HB3.out).mono ?_)
       rintro e w4 ⟨rfl,rfl⟩
       obtain⟨aZ,cZ,z0,-⟩:=(HH.out.below HB3.out (Nat.le_refl _)).nodes
       rw[←El.out]at z0
       have hr3:r<w3.heap.size:=by have:=HB3.out.size;omega
       go_wp2_with fail
       go_ret2
       exact dJ.Km HH.out HB3.out HQ.out)
     ·rw[if_neg h64]at hme
      obtain⟨f,hf0,hf1,hf2,hfn,hfs⟩:=hT.free
      have HQ:Hid (dw T ls kind=(((f:Int),0),setName (bP gL (f:Int) (aX kind) T) d2 n2 f)):=by
       show dw T ls kind=_
       unfold dw ou
       rw[hme,if_pos rfl,hpl,hf0]
      have OP:=Lib.hid (uU.of hT)
      have hdf:d2≠(f:Int):=fun e=>by rw[e,hfn]at hx2;cases hx2
      have Hw:Hid (aF d2 (bP gL (f:Int) (aX kind) T)=some x2∧aF n2 x2.names=none):=⟨by rw[dV,if_neg hdf];exact hx2,hn⟩
      have AY:Hid (uU (bP gL (f:Int) (aX kind) T)):=by
       refine⟨hT.sorted.bP dD _ _,fun q hq=> ?_,by rw[tN _ hfn];omega,by rw[wC hfn];have:=lG hT;omega⟩
       unfold bP at hq
       rw[jC hfn]at hq
       rcases (mV gL).1 hq with rfl|h2
       ·simp[aX,aJ]
       ·exact(uU.of hT).names q h2
      have Ho:=Lib.hid hfn
      have Vn:=Lib.hid hfs
      have TI:T.length<64:=by omega
      obtain⟨n,hne⟩:∃n,n=T.length:=⟨_,rfl⟩
      have fV:=Lib.hid hne
      rw[←hne]at TI hf2
      have OU:decide (64≤n)=false:=by simp;omega
      have TH:decide ((64:Int)≤(n:Int))=false:=by simp;omega
      have TJ:=Lib.hid hkb
      have HFV:=Lib.hid (by rfl:(f:Int)=(f:Int))
      clear h hT hS hE H5 hpl hx2 PX hme hn h0 hkk xD hc h64 hf0 hfn hfs hne hdf
      cases kb with
      |false=>
       go_enter Tryz.func13,Tryz.ntmps13
       go_wp2_with fail
       (with_reducible refine H1.out.mono ?_)
       rintro e w1 ⟨rfl,hb1⟩
       have HB1:=Lib.hid hb1
       clear hb1
       go_wp2_with fail
       (with_reducible refine(H3.out w1 HB1.out).mono ?_)
       rintro e w3 ⟨rfl,hb3⟩
       have HB3:=Lib.hid (HB1.out.trans (hb3.mono HB1.out.size))
       clear hb3
       go_wp2_with fail
       (with_reducible refine(Kh.out w3 HB3.out).mono ?_)
       rintro e w4 ⟨rfl,rfl⟩
       have uF:=HH.out.below HB3.out (Nat.le_refl _)
       have HAT:=Lib.hid (fun i=>pJ i w3 uF (by have:=fV.out;omega))
       obtain⟨aN,cN,aD,cD,aE,cE,h1,h2,h3,h4,h8,h9,h10,h11⟩:=uF.head
       obtain⟨p0,p1,p2,pf⟩:=dY h1
       rw[←fV.out]at p0
       have hrw:r<w3.heap.size:=uF.low r uF.own
       have HR3:=Lib.hid uF
       have pR:=Lib.hid h1
       have PY:=Lib.hid h8
       have Mv:=Lib.hid h9
       have hNc:n≤cN:=by have:=fV.out;omega
       have XP:n≤cD:=by have:=fV.out;rw[List.length_map]at h3;omega
       have XQ:=pf 0
       clear uF h1 h2 h3 h4 h8 h9 h10 h11 p1 p2 pf
       go_wp2_with fail
       go_loop [11] (fun v=>∃i:Nat,1≤i∧i≤f∧v= .int .i64 i) (fun v=>f-(intOf v).toNat)
       case atStart=>exact⟨1,by omega,hf1,rfl⟩
       case round=>
        obtain⟨i,hi1,hi2,rfl⟩:=hrel
        have HA:=Lib.hid (HAT.out (i:Int))
        by_cases hlt:i<f
        ·obtain⟨y,hy⟩:=Option.isSome_iff_exists.1 (Vn.out i hi1 hlt)
         obtain⟨k,hk,-⟩:=jw HT.out.sorted hy
         rw[hk]at HA
         have m0:¬(k:Int)<0:=by omega
         have m1:(0:Int)≤k:=by omega
         clear hy hk
         go_wp2_with fail
         (with_reducible refine HA.out.mono ?_)
         rintro e w4 ⟨rfl,rfl⟩
         go_wp2_with fail
         go_round
         case rel=>exact⟨i+1,by omega,by omega,by go_num⟩
         case measure=>simp[intOf];omega
        ·obtain rfl:i=f:=by omega
         rw[rH Ho.out]at HA
         clear hlt hi1 hi2
         go_wp2_with fail
         (with_reducible refine HA.out.mono ?_)
         rintro e w4 ⟨rfl,rfl⟩
         go_upto_block 2 with(fail)
         go_cut [12]from 51 to 71 (fun v wx=>uf T i w3 v wx)
         case first=>
          go_wp2_with fail
          go_loop [12] (fun v=>∃k:Nat,k≤n∧v= .int .i64 k∧(T.take k).all (fun q=>decide (q.1<(i:Int)))=true) (fun v=>n-(intOf v).toNat)
          case atStart=>exact⟨0,by omega,rfl,by simp⟩
          case round=>
           obtain⟨k,hk,rfl,hall⟩:=hrel
           have qz:=Lib.hid hall
           clear hall
           by_cases hlt:k<n
           ·have hx:T[k]? =some (T[k]'(by have:=fV.out;omega)):=List.getElem?_eq_getElem _
            obtain⟨q,hq⟩:∃q,q=T[k]'(by have:=fV.out;omega):=⟨_,rfl⟩
            rw[←hq]at hx
            have TK:=Lib.hid hx
            obtain⟨b,off,rfl,hF,hb,hi,hcc⟩:=PY.out.wide dG rfl hx (by omega)
            have q0:w3.cell? ⟨b,off+k*6,none⟩=some (.int .i64 q.1):=hcc 0 (by omega)
            clear hx hq hcc
            have i0:(0:Int)≤k:=by omega
            have i1:(k:Int)<n:=by omega
            by_cases hp:q.1<(i:Int)
            ·have e1:decide (q.1<(i:Int))=true:=by simpa using hp
             have HST:=Lib.hid (mR qz.out TK.out e1)
             clear hp
             go_wp2
             go_round
             case rel=>exact⟨k+1,by omega,by go_num,HST.out⟩
             case measure=>simp[intOf];omega
            ·have e1:decide (q.1<(i:Int))=false:=by simpa using hp
             have PZ:=Lib.hid (uf.of (w:=w3) HT.out.sorted Ho.out (by have:=fV.out;omega) qz.out (fun x hx=>by have:=TK.out;rw[this]at hx;cases hx;exact e1))
             clear hp
             go_wp2
             go_meet
             exact PZ.out
           ·have PZ:=Lib.hid (uf.of (w:=w3) (k:=k) HT.out.sorted Ho.out (by have:=fV.out;omega) qz.out (fun x hx=>by
             have:=fV.out
             rw[List.getElem?_eq_none (by omega)]at hx
             cases hx))
            go_wp2
            go_meet
            exact PZ.out
         case rest=>
          obtain⟨k,hk,rfl,hput,rfl⟩:=hcut
          have hkn:k≤n:=by have:=fV.out;omega
          have hn1:0<n:=by
           obtain⟨z,hz⟩:=Option.isSome_iff_exists.1 (gG HT.out)
           have:=List.length_pos_of_mem (eD hz)
           have:=fV.out
           omega
          have h1:=pR.out
          rw[List.length_map,←fV.out]at h1
          have h8:=PY.out
          rw[←fV.out]at h8
          obtain⟨bN,oN,rfl,-,-,-⟩:=h8.at_ (by omega)
          obtain⟨vs,hv,ug⟩:=Mv.out
          rw[List.length_map,←fV.out]at hv
          obtain⟨bD,oD,rfl,-,-,-⟩:=hv.at_ (by omega)
          have hlv:=hv.length
          replace pR:=Lib.hid h1
          obtain⟨p0,p1,p2,pf⟩:=dY h1
          have mh:Hid (∀w4,Below w3.heap.size w3 w4→w4.cell? ⟨r,0,none⟩=some (.slice (some ⟨bN,oN,none⟩) n cN)∧w4.frozen? ⟨r,0,none⟩=false):=fun w4 hb=>⟨by rw[hb.cell (p:=⟨r,0,none⟩) hrw];exact p0,by rw[hb.frozen (p:=⟨r,0,none⟩) hrw];exact pf 0⟩
          have zZ:Hid (∀w4,Below w3.heap.size w3 w4→ak (Off F r) w4 (some ⟨bN,oN,none⟩) (k*6) ((T.take k).flatMap bA)∧ak (Off F r) w4 (if cN=k then some ⟨bN,oN,none⟩else some ⟨bN,oN+k*6,none⟩) ((n-k)*6) ((T.drop k).flatMap bA)):=fun w4 hb=>by
           have:=rP (c:=cN) h8 hkn hNc hb
           rwa [jK bA 6 dG,jL bA 6 dG]at this
          obtain⟨i6,a6,b6,s6,d6⟩:=info_parts nodeInfo
          have fA:=Lib.hid (And.intro a6 (And.intro b6 (And.intro s6 d6)))
          obtain⟨i1,a1,b1,s1,d1⟩:=info_parts oO
          have HI1:=Lib.hid (And.intro a1 (And.intro b1 (And.intro s1 d1)))
          have HV:=Lib.hid hv
          have M9:=Lib.hid hlv
          have EC:Hid (Each (Off F r) w3 vs (T.map fun q=>q.2.b)):=ug
          have mg:=Lib.hid (And.intro (fun u hu=>Each.one (F:=Off F r) (w:=w3) EC.out (by rw[List.length_map,←fV.out];exact hlv) u (List.mem_of_mem_take hu):∀u∈vs.take k,u.oneCell'=true) (fun u hu=>Each.one (F:=Off F r) (w:=w3) EC.out (by rw[List.length_map,←fV.out];exact hlv) u (List.mem_of_mem_drop hu):∀u∈vs.drop k,u.oneCell'=true))
          have Hu:Hid ((bP gL (i:Int) (aX kind) T).map (fun q=>q.2.b)=(T.map fun q=>q.2.b).take k++[]::(T.map fun q=>q.2.b).drop k∧(T.map fun q=>q.2.b).length=n):=by
           refine⟨?_,by rw[List.length_map];exact fV.out.symm⟩
           rw[hput,List.map_append,List.map_cons,List.map_take,List.map_drop]
           rfl
          have P5:Hid (bP gL (i:Int) (aX kind) T=T.take k++((i:Int),aX kind)::T.drop k∧false=decide (kind=2)):=⟨hput _,TJ.out.symm⟩
          have i0:(0:Int)≤k:=by omega
          have Ti:(k:Int)≤cN:=by omega
          have i2:(k:Int)≤n:=by omega
          have i4:(n:Int)≤cN:=by omega
          have i5:(k:Int)≤cD:=by omega
          have i6':(n:Int)≤cD:=by omega
          clear a6 b6 s6 d6 a1 b1 s1 d1 h1 h8 hv ug hlv p0 p1 p2 pf hput hk
          go_upto_region 19 with(fail)
          go_cut [] (fun wx=>bq w3 r (.slice (some ⟨bD,oD,none⟩) n cD) (.slice aE (aQ T).length cE) (bP gL (i:Int) (aX kind) T) wx)
          case first=>
           go_wp2
           refine wp_region_noPanic ?_
           refine aH (last:=25) (S:=(fun w'=>w'.cell? ⟨r,0,none⟩=some (.slice (some ⟨bN,oN,none⟩) n cN)∧w'.frozen? ⟨r,0,none⟩=false)) (by kernel_rfl) ?_ (fun hS=> ?_)
           ·exact mh.out _ (Below.refl _ _).drew
           refine aC 0 (hS:=hS) (h:= ?_)
           refine aC 2 (hS:=hS) (h:= ?_)
           refine aC 3 (hS:=hS) (h:= ?_)
           refine aC 4 (hS:=hS) (h:= ?_)
           refine aC 5 (hS:=hS) (h:= ?_)
           refine aC 6 (hS:=hS) (h:= ?_)
           refine aC 7 (hS:=hS) (h:= ?_)
           refine aC 9 (hS:=hS) (h:= ?_)
           refine aC 10 (hS:=hS) (h:= ?_)
           refine aC 11 (hS:=hS) (h:= ?_)
           refine aC 12 (hS:=hS) (h:= ?_)
           refine aC 13 (hS:=hS) (h:= ?_)
           refine aC 16 (hS:=hS) (h:= ?_)
           refine aC 17 (hS:=hS) (h:= ?_)
           refine aC 18 (hS:=hS) (h:= ?_)
           refine aC 19 (hS:=hS) (h:= ?_)
           refine aC 20 (hS:=hS) (h:= ?_)
           refine aC 21 (hS:=hS) (h:= ?_)
           refine aj (rs:=[1,14]) (by kernel_rfl) (by simp) ?_
           refine ah.cons (o:= ?o1) ?ho1 (fun K hK=> ?wa) (ah.cons (o:= ?o2) ?ho2 (fun K hK=> ?wb) ah.nil)
           case ho1=>simp only[List.getElem?_toArray,List.getElem?_cons_succ,List.getElem?_cons_zero];rfl
           case ho2=>simp only[List.getElem?_toArray,List.getElem?_cons_succ,List.getElem?_cons_zero];rfl
           case wa=>
            go_simp
            refine hK.out _ _ (fun _=>mh.out _ ((Below.refl _ _).drew.alloc (Nat.le_refl _) _)) (fun hS=> ?_)
            replace hS:=hS (by decide)
            clear hK K
            try simp only[Act.put,List.setIfInBounds_toArray,List.set_cons_zero,List.set_cons_succ]
            refine aj (rs:=[8,14]) (by kernel_rfl) (by simp) ?_
            refine ah.cons (o:= ?o3) ?ho3 (fun K hK=> ?JU) (ah.cons (o:= ?o4) ?M5 (fun K hK=> ?JV) ah.nil)
            case ho3=>simp only[List.getElem?_toArray,List.getElem?_cons_succ,List.getElem?_cons_zero];rfl
            case M5=>simp only[List.getElem?_toArray,List.getElem?_cons_succ,List.getElem?_cons_zero];rfl
            case JU=>
             refine au (by rfl) (.tmp 73) (.tmp 79) 99 (by rfl) w3.heap.size 98 _ _ 6 48 Tryz.underlying99 fA.out.1 fA.out.2.1 fA.out.2.2.1 fA.out.2.2.2 rfl (by omega) _ 0 [] (by rfl) (bZ (MapKept.heap_alloc w3.drew _).1 (Nat.le_refl _)) _ k _ ((T.take k).flatMap bA) (by rfl) (zZ.out _ ((Below.refl _ _).drew.alloc (Nat.le_refl _) _)).1 (dx _) (by unfold maxLen;omega) (by omega) (by simp<;>omega) ?_
             intro A1 c1 u1 hown0 hb1
             have hB0:Below w3.heap.size w3 u1:=((Below.refl _ _).drew.alloc (Nat.le_refl _) _).trans hb1
             refine hK.out _ _ (fun _=>mh.out _ hB0) (fun hS=> ?_)
             replace hS:=hS (by decide)
             clear hK K
             try simp only[Act.put,List.setIfInBounds_toArray,List.set_cons_zero,List.set_cons_succ]
             refine dh 14 (h:=fun K hK=> ?_)
             go_simp
             refine hK.out _ _ (fun _=>mh.out _ (hB0.alloc hB0.size _)) (fun hS=> ?_)
             replace hS:=hS (by decide)
             clear hK K
             try simp only[Act.put,List.setIfInBounds_toArray,List.set_cons_zero,List.set_cons_succ]
             rw[Nat.zero_add]at hown0
             have hown1:=own_below hown0 ((Below.refl _ _).alloc (Nat.le_refl _) (.cells (newC (i:Int) kind false).toArray 98))
             have hrow:=fC (w:=u1) (newC (i:Int) kind false) 98 (by simp[newC,maxLen])
             have hB1:Below w3.heap.size w3 (u1.alloc (.cells (newC (i:Int) kind false).toArray 98)):=hB0.alloc hB0.size _
             refine aj (rs:=[15]) (by kernel_rfl) (by simp) ?_
             refine ah.cons (o:= ?o5) ?PS (fun K hK=> ?_) ah.nil
             case PS=>simp only[List.getElem?_toArray,List.getElem?_cons_succ,List.getElem?_cons_zero];rfl
             refine au (by rfl) (.tmp 80) (.tmp 86) 99 (by rfl) w3.heap.size 98 _ _ 6 48 Tryz.underlying99 fA.out.1 fA.out.2.1 fA.out.2.2.1 fA.out.2.2.2 rfl (by omega) _ _ _ (by rfl) hown1 _ 1 _ (newC (i:Int) kind false) (by rfl) hrow (nA _ _ _) (by unfold maxLen;omega) (by omega) hB1.size ?_
             intro A2 c2 u2 hown2 hb2
             have hB2:Below w3.heap.size w3 u2:=hB1.trans hb2
             refine hK.out _ _ (fun _=>mh.out _ hB2) (fun hS=> ?_)
             replace hS:=hS (by decide)
             clear hK K
             try simp only[Act.put,List.setIfInBounds_toArray,List.set_cons_zero,List.set_cons_succ]
             refine aj (rs:=[22]) (by kernel_rfl) (by simp) ?_
             refine ah.cons (o:= ?o6) ?Tn (fun K hK=> ?_) ah.nil
             case Tn=>simp only[List.getElem?_toArray,List.getElem?_cons_succ,List.getElem?_cons_zero];rfl
             refine au (by rfl) (.tmp 87) (.tmp 93) 99 (by rfl) w3.heap.size 98 _ _ 6 48 Tryz.underlying99 fA.out.1 fA.out.2.1 fA.out.2.2.1 fA.out.2.2.2 rfl (by omega) _ _ _ (by rfl) hown2 _ (n-k) _ ((T.drop k).flatMap bA) (by rfl) (zZ.out _ hB2).2 (dx _) (by unfold maxLen;omega) (by omega) hB2.size ?_
             intro A3 c3 u3 hown3 hb3
             have gW:Below w3.heap.size w3 u3:=hB2.trans hb3
             refine hK.out _ _ (fun _=>mh.out _ gW) (fun hS=> ?_)
             replace hS:=hS (by decide)
             clear hK K
             try simp only[Act.put,List.setIfInBounds_toArray,List.set_cons_zero,List.set_cons_succ]
             refine aC 23 (hS:=hS) (h:= ?_)
             refine aC 24 (hS:=hS) (h:= ?_)
             refine dh 25 (h:=fun K hK=> ?_)
             go_simp
             refine hK.out _ _ (fun h=>absurd rfl h) (fun hS=> ?_)
             clear hS hK K
             try simp only[Act.put,List.setIfInBounds_toArray,List.set_cons_zero,List.set_cons_succ]
             refine aG (by kernel_rfl) ?_ _
             refine NoPanic.normal ?_
             go_wp2_with fail
             all_goals (
              go_meet
              exact jN hrw pR.out gW P5.out fV.out hkn (by omega) (by simp) hown3 (by unfold maxLen;omega))
            case JV=>
             go_simp
             refine hK.out _ _ (fun _=>mh.out _ (((Below.refl _ _).drew.alloc (Nat.le_refl _) _).alloc (by simp<;>omega) _)) (fun hS=> ?_)
             replace hS:=hS (by decide)
             clear hK K
             try simp only[Act.put,List.setIfInBounds_toArray,List.set_cons_zero,List.set_cons_succ]
             refine aj (rs:=[8]) (by kernel_rfl) (by simp) ?_
             refine ah.cons (o:= ?o7) ?Tp (fun K hK=> ?_) ah.nil
             case Tp=>simp only[List.getElem?_toArray,List.getElem?_cons_succ,List.getElem?_cons_zero];rfl
             refine bB (by rfl) (.tmp 73) (.tmp 79) 99 (by rfl) w3.heap.size 98 _ _ 6 48 Tryz.underlying99 fA.out.1 fA.out.2.1 fA.out.2.2.1 fA.out.2.2.2 rfl (by omega) _ 0 [] (by rfl) (bZ (dK w3 _ _).1 (Nat.le_refl _)) _ k _ ((T.take k).flatMap bA) (by rfl) (zZ.out _ (((Below.refl _ _).drew.alloc (Nat.le_refl _) _).alloc (by simp<;>omega) _)).1 (dx _) (by unfold maxLen;omega) (by omega) (by simp<;>omega) ?_
             intro A1 c1 u1 hown1 hb1 hg1
             have hB1:Below w3.heap.size w3 u1:=(((Below.refl _ _).drew.alloc (Nat.le_refl _) _).alloc (by simp<;>omega) _).trans hb1
             have hrow:=(gJ (vs:=(newC (i:Int) kind false)) (dK w3 (.cells #[] 98) (.cells (newC (i:Int) kind false).toArray 98)).2 (by simp[newC,maxLen])).grown hg1 (fun b hb hbw=>by subst hb;simp[Value.ownBlock])
             refine hK.out _ _ (fun _=>mh.out _ hB1) (fun hS=> ?_)
             replace hS:=hS (by decide)
             clear hK K
             try simp only[Act.put,List.setIfInBounds_toArray,List.set_cons_zero,List.set_cons_succ]
             refine aj (rs:=[15]) (by kernel_rfl) (by simp) ?_
             refine ah.cons (o:= ?o8) ?Om (fun K hK=> ?_) ah.nil
             case Om=>simp only[List.getElem?_toArray,List.getElem?_cons_succ,List.getElem?_cons_zero];rfl
             refine au (by rfl) (.tmp 80) (.tmp 86) 99 (by rfl) w3.heap.size 98 _ _ 6 48 Tryz.underlying99 fA.out.1 fA.out.2.1 fA.out.2.2.1 fA.out.2.2.2 rfl (by omega) _ _ _ (by rfl) hown1 _ 1 _ (newC (i:Int) kind false) (by rfl) hrow (nA _ _ _) (by unfold maxLen;omega) (by omega) hB1.size ?_
             intro A2 c2 u2 hown2 hb2
             have hB2:Below w3.heap.size w3 u2:=hB1.trans hb2
             refine hK.out _ _ (fun _=>mh.out _ hB2) (fun hS=> ?_)
             replace hS:=hS (by decide)
             clear hK K
             try simp only[Act.put,List.setIfInBounds_toArray,List.set_cons_zero,List.set_cons_succ]
             refine aj (rs:=[22]) (by kernel_rfl) (by simp) ?_
             refine ah.cons (o:= ?o9) ?Tq (fun K hK=> ?_) ah.nil
             case Tq=>simp only[List.getElem?_toArray,List.getElem?_cons_succ,List.getElem?_cons_zero];rfl
             refine au (by rfl) (.tmp 87) (.tmp 93) 99 (by rfl) w3.heap.size 98 _ _ 6 48 Tryz.underlying99 fA.out.1 fA.out.2.1 fA.out.2.2.1 fA.out.2.2.2 rfl (by omega) _ _ _ (by rfl) hown2 _ (n-k) _ ((T.drop k).flatMap bA) (by rfl) (zZ.out _ hB2).2 (dx _) (by unfold maxLen;omega) (by omega) hB2.size ?_
             intro A3 c3 u3 hown3 hb3
             have gW:Below w3.heap.size w3 u3:=hB2.trans hb3
             refine hK.out _ _ (fun _=>mh.out _ gW) (fun hS=> ?_)
             replace hS:=hS (by decide)
             clear hK K
             try simp only[Act.put,List.setIfInBounds_toArray,List.set_cons_zero,List.set_cons_succ]
             refine aC 23 (hS:=hS) (h:= ?_)
             refine aC 24 (hS:=hS) (h:= ?_)
             refine dh 25 (h:=fun K hK=> ?_)
             go_simp
             refine hK.out _ _ (fun h=>absurd rfl h) (fun hS=> ?_)
             clear hS hK K
             try simp only[Act.put,List.setIfInBounds_toArray,List.set_cons_zero,List.set_cons_succ]
             refine aG (by kernel_rfl) ?_ _
             refine NoPanic.normal ?_
             go_wp2_with fail
             all_goals (
              go_meet
              exact jN hrw pR.out gW P5.out fV.out hkn (by omega) (by simp) hown3 (by unfold maxLen;omega))
           case wb=>
            go_simp
            refine hK.out _ _ (fun _=>mh.out _ ((Below.refl _ _).drew.alloc (Nat.le_refl _) _)) (fun hS=> ?_)
            replace hS:=hS (by decide)
            clear hK K
            try simp only[Act.put,List.setIfInBounds_toArray,List.set_cons_zero,List.set_cons_succ]
            refine dh 1 (h:=fun K hK=> ?_)
            go_simp
            refine hK.out _ _ (fun _=>mh.out _ (((Below.refl _ _).drew.alloc (Nat.le_refl _) _).alloc (by simp<;>omega) _)) (fun hS=> ?_)
            replace hS:=hS (by decide)
            clear hK K
            try simp only[Act.put,List.setIfInBounds_toArray,List.set_cons_zero,List.set_cons_succ]
            refine aj (rs:=[8]) (by kernel_rfl) (by simp) ?_
            refine ah.cons (o:= ?Z4) ?JW (fun K hK=> ?_) ah.nil
            case JW=>simp only[List.getElem?_toArray,List.getElem?_cons_succ,List.getElem?_cons_zero];rfl
            refine bB (by rfl) (.tmp 73) (.tmp 79) 99 (by rfl) w3.heap.size 98 _ _ 6 48 Tryz.underlying99 fA.out.1 fA.out.2.1 fA.out.2.2.1 fA.out.2.2.2 rfl (by omega) _ 0 [] (by rfl) (bZ (dK w3 _ _).2 (by omega)) _ k _ ((T.take k).flatMap bA) (by rfl) (zZ.out _ (((Below.refl _ _).drew.alloc (Nat.le_refl _) _).alloc (by simp<;>omega) _)).1 (dx _) (by unfold maxLen;omega) (by omega) (by simp<;>omega) ?_
            intro A1 c1 u1 hown1 hb1 hg1
            have hB1:Below w3.heap.size w3 u1:=(((Below.refl _ _).drew.alloc (Nat.le_refl _) _).alloc (by simp<;>omega) _).trans hb1
            have hrow:=(gJ (vs:=(newC (i:Int) kind false)) (dK w3 (.cells (newC (i:Int) kind false).toArray 98) (.cells #[] 98)).1 (by simp[newC,maxLen])).grown hg1 (fun b hb hbw=>by subst hb;simp[Value.ownBlock])
            refine hK.out _ _ (fun _=>mh.out _ hB1) (fun hS=> ?_)
            replace hS:=hS (by decide)
            clear hK K
            try simp only[Act.put,List.setIfInBounds_toArray,List.set_cons_zero,List.set_cons_succ]
            refine aj (rs:=[15]) (by kernel_rfl) (by simp) ?_
            refine ah.cons (o:= ?Z5) ?JX (fun K hK=> ?_) ah.nil
            case JX=>simp only[List.getElem?_toArray,List.getElem?_cons_succ,List.getElem?_cons_zero];rfl
            refine au (by rfl) (.tmp 80) (.tmp 86) 99 (by rfl) w3.heap.size 98 _ _ 6 48 Tryz.underlying99 fA.out.1 fA.out.2.1 fA.out.2.2.1 fA.out.2.2.2 rfl (by omega) _ _ _ (by rfl) hown1 _ 1 _ (newC (i:Int) kind false) (by rfl) hrow (nA _ _ _) (by unfold maxLen;omega) (by omega) hB1.size ?_
            intro A2 c2 u2 hown2 hb2
            have hB2:Below w3.heap.size w3 u2:=hB1.trans hb2
            refine hK.out _ _ (fun _=>mh.out _ hB2) (fun hS=> ?_)
            replace hS:=hS (by decide)
            clear hK K
            try simp only[Act.put,List.setIfInBounds_toArray,List.set_cons_zero,List.set_cons_succ]
            refine aj (rs:=[22]) (by kernel_rfl) (by simp) ?_
            refine ah.cons (o:= ?Z6) ?JY (fun K hK=> ?_) ah.nil
            case JY=>simp only[List.getElem?_toArray,List.getElem?_cons_succ,List.getElem?_cons_zero];rfl
            refine au (by rfl) (.tmp 87) (.tmp 93) 99 (by rfl) w3.heap.size 98 _ _ 6 48 Tryz.underlying99 fA.out.1 fA.out.2.1 fA.out.2.2.1 fA.out.2.2.2 rfl (by omega) _ _ _ (by rfl) hown2 _ (n-k) _ ((T.drop k).flatMap bA) (by rfl) (zZ.out _ hB2).2 (dx _) (by unfold maxLen;omega) (by omega) hB2.size ?_
            intro A3 c3 u3 hown3 hb3
            have gW:Below w3.heap.size w3 u3:=hB2.trans hb3
            refine hK.out _ _ (fun _=>mh.out _ gW) (fun hS=> ?_)
            replace hS:=hS (by decide)
            clear hK K
            try simp only[Act.put,List.setIfInBounds_toArray,List.set_cons_zero,List.set_cons_succ]
            refine aC 23 (hS:=hS) (h:= ?_)
            refine aC 24 (hS:=hS) (h:= ?_)
            refine dh 25 (h:=fun K hK=> ?_)
            go_simp
            refine hK.out _ _ (fun h=>absurd rfl h) (fun hS=> ?_)
            clear hS hK K
            try simp only[Act.put,List.setIfInBounds_toArray,List.set_cons_zero,List.set_cons_succ]
            refine aG (by kernel_rfl) ?_ _
            refine NoPanic.normal ?_
            go_wp2_with fail
            all_goals (
             go_meet
             exact jN hrw pR.out gW P5.out fV.out hkn (by omega) (by simp) hown3 (by unfold maxLen;omega))
          case rest=>
           obtain⟨w5,rfl⟩:∃w5:World,w5=wc:=⟨_,rfl⟩
           have HM:=Lib.hid hcut
           obtain⟨hK,-,aM,cM,h5,-,-,-⟩:=hcut
           obtain⟨p0,p1,p2,pf⟩:=dY h5
           have hs1:=hK.size
           have hr1:r<w5.heap.size:=by omega
           have hv1:ak (Off (Grow F w3 w5) r) w5 (some ⟨bD,oD,none⟩) (n*1) vs:=by rw[Nat.mul_one];exact mE hK HV.out
           have lM:Hid (∀w4,Below w5.heap.size w5 w4→w4.cell? ⟨r,1,none⟩=some (.slice (some ⟨bD,oD,none⟩) n cD)∧w4.frozen? ⟨r,1,none⟩=false):=fun w4 hb=>⟨by rw[hb.cell (p:=⟨r,1,none⟩) hr1];exact p1,by rw[hb.frozen (p:=⟨r,1,none⟩) hr1];exact pf 1⟩
           have kR:Hid (∀w4,Below w5.heap.size w5 w4→ak (Off (Grow F w3 w5) r) w4 (some ⟨bD,oD,none⟩) (k*1) (vs.take k)∧ak (Off (Grow F w3 w5) r) w4 (if cD=k then some ⟨bD,oD,none⟩else some ⟨bD,oD+k,none⟩) ((n-k)*1) (vs.drop k)):=fun w4 hb=>by
            have:=rP (c:=cD) hv1 hkn XP hb
            rw[Nat.mul_one]at this
            simpa only[Nat.mul_one]using this
           clear hK h5 p0 p1 p2 pf hv1
           go_upto_region 20 with(fail)
           go_cut [] (fun wx=>cu F w3 r (bP gL (i:Int) (aX kind) T) ((bP gL (i:Int) (aX kind) T).map fun q=>q.2.b) (aQ T) (.tuple #[]) (.returned (.tuple #[])) wx)
           case first=>
            go_wp2
            refine wp_region_noPanic ?_
            refine aH (last:=20) (S:=(fun w'=>w'.cell? ⟨r,1,none⟩=some (.slice (some ⟨bD,oD,none⟩) n cD)∧w'.frozen? ⟨r,1,none⟩=false)) (by kernel_rfl) ?_ (fun hS=> ?_)
            ·exact lM.out _ (Below.refl _ _).drew
            refine aC 0 (hS:=hS) (h:= ?_)
            refine aC 2 (hS:=hS) (h:= ?_)
            refine aC 3 (hS:=hS) (h:= ?_)
            refine aC 4 (hS:=hS) (h:= ?_)
            refine aC 5 (hS:=hS) (h:= ?_)
            refine aC 6 (hS:=hS) (h:= ?_)
            refine aC 7 (hS:=hS) (h:= ?_)
            refine aC 11 (hS:=hS) (h:= ?_)
            refine aC 12 (hS:=hS) (h:= ?_)
            refine aC 13 (hS:=hS) (h:= ?_)
            refine aC 14 (hS:=hS) (h:= ?_)
            refine aC 15 (hS:=hS) (h:= ?_)
            refine aC 16 (hS:=hS) (h:= ?_)
            refine aj (rs:=[1,9]) (by kernel_rfl) (by simp) ?_
            refine ah.cons (o:= ?Z7) ?J2 (fun K hK=> ?wa) (ah.cons (o:= ?Z8) ?J3 (fun K hK=> ?wb) ah.nil)
            case J2=>simp only[List.getElem?_toArray,List.getElem?_cons_succ,List.getElem?_cons_zero];rfl
            case J3=>simp only[List.getElem?_toArray,List.getElem?_cons_succ,List.getElem?_cons_zero];rfl
            case wa=>
             go_simp
             refine hK.out _ _ (fun _=>lM.out _ ((Below.refl _ _).drew.alloc (Nat.le_refl _) _)) (fun hS=> ?_)
             replace hS:=hS (by decide)
             clear hK K
             try simp only[Act.put,List.setIfInBounds_toArray,List.set_cons_zero,List.set_cons_succ]
             refine aj (rs:=[8,9]) (by kernel_rfl) (by simp) ?_
             refine ah.cons (o:= ?Z9) ?J4 (fun K hK=> ?JU) (ah.cons (o:= ?o16) ?J5 (fun K hK=> ?JV) ah.nil)
             case J4=>simp only[List.getElem?_toArray,List.getElem?_cons_succ,List.getElem?_cons_zero];rfl
             case J5=>simp only[List.getElem?_toArray,List.getElem?_cons_succ,List.getElem?_cons_zero];rfl
             case JU=>
              refine au (by rfl) (.tmp 98) (.tmp 104) 86 (by rfl) w5.heap.size 39 _ _ 1 24 Tryz.underlying86 HI1.out.1 HI1.out.2.1 HI1.out.2.2.1 HI1.out.2.2.2 rfl (by omega) _ 0 [] (by rfl) (bZ (MapKept.heap_alloc w5.drew _).1 (Nat.le_refl _)) _ k _ (vs.take k) (by rfl) (kR.out _ ((Below.refl _ _).drew.alloc (Nat.le_refl _) _)).1 mg.out.1 (by unfold maxLen;omega) (by omega) (by simp<;>omega) ?_
              intro A1 c1 u1 hown0 hb1
              have hB0:Below w5.heap.size w5 u1:=((Below.refl _ _).drew.alloc (Nat.le_refl _) _).trans hb1
              refine hK.out _ _ (fun _=>lM.out _ hB0) (fun hS=> ?_)
              replace hS:=hS (by decide)
              clear hK K
              try simp only[Act.put,List.setIfInBounds_toArray,List.set_cons_zero,List.set_cons_succ]
              refine dh 9 (h:=fun K hK=> ?_)
              go_simp
              refine hK.out _ _ (fun _=>lM.out _ (hB0.alloc hB0.size _)) (fun hS=> ?_)
              replace hS:=hS (by decide)
              clear hK K
              try simp only[Act.put,List.setIfInBounds_toArray,List.set_cons_zero,List.set_cons_succ]
              rw[Nat.zero_add]at hown0
              have hown1:=own_below hown0 ((Below.refl _ _).alloc (Nat.le_refl _) (.cells [Value.slice none 0 0].toArray 39))
              have hrow:=fC (w:=u1) [Value.slice none 0 0] 39 (by simp[newC,maxLen])
              have hB1:Below w5.heap.size w5 (u1.alloc (.cells [Value.slice none 0 0].toArray 39)):=hB0.alloc hB0.size _
              refine aj (rs:=[10]) (by kernel_rfl) (by simp) ?_
              refine ah.cons (o:= ?Z_) ?J6 (fun K hK=> ?_) ah.nil
              case J6=>simp only[List.getElem?_toArray,List.getElem?_cons_succ,List.getElem?_cons_zero];rfl
              refine au (by rfl) (.tmp 105) (.tmp 106) 86 (by rfl) w5.heap.size 39 _ _ 1 24 Tryz.underlying86 HI1.out.1 HI1.out.2.1 HI1.out.2.2.1 HI1.out.2.2.2 rfl (by omega) _ _ _ (by rfl) hown1 _ 1 _ [Value.slice none 0 0] (by rfl) hrow (by intro u hu;simp only[List.mem_singleton]at hu;subst hu;rfl) (by unfold maxLen;omega) (by omega) hB1.size ?_
              intro A2 c2 u2 hown2 hb2
              have hB2:Below w5.heap.size w5 u2:=hB1.trans hb2
              refine hK.out _ _ (fun _=>lM.out _ hB2) (fun hS=> ?_)
              replace hS:=hS (by decide)
              clear hK K
              try simp only[Act.put,List.setIfInBounds_toArray,List.set_cons_zero,List.set_cons_succ]
              refine aj (rs:=[17]) (by kernel_rfl) (by simp) ?_
              refine ah.cons (o:= ?o18) ?J7 (fun K hK=> ?_) ah.nil
              case J7=>simp only[List.getElem?_toArray,List.getElem?_cons_succ,List.getElem?_cons_zero];rfl
              refine au (by rfl) (.tmp 107) (.tmp 113) 86 (by rfl) w5.heap.size 39 _ _ 1 24 Tryz.underlying86 HI1.out.1 HI1.out.2.1 HI1.out.2.2.1 HI1.out.2.2.2 rfl (by omega) _ _ _ (by rfl) hown2 _ (n-k) _ (vs.drop k) (by rfl) (kR.out _ hB2).2 mg.out.2 (by unfold maxLen;omega) (by omega) hB2.size ?_
              intro A3 c3 u3 hown3 hb3
              have gW:Below w5.heap.size w5 u3:=hB2.trans hb3
              refine hK.out _ _ (fun _=>lM.out _ gW) (fun hS=> ?_)
              replace hS:=hS (by decide)
              clear hK K
              try simp only[Act.put,List.setIfInBounds_toArray,List.set_cons_zero,List.set_cons_succ]
              refine aC 18 (hS:=hS) (h:= ?_)
              refine aC 19 (hS:=hS) (h:= ?_)
              refine dh 20 (h:=fun K hK=> ?_)
              go_simp
              refine hK.out _ _ (fun h=>absurd rfl h) (fun hS=> ?_)
              clear hS hK K
              try simp only[Act.put,List.setIfInBounds_toArray,List.set_cons_zero,List.set_cons_succ]
              refine aG (by kernel_rfl) ?_ _
              refine NoPanic.normal ?_
              go_wp2_with fail
              all_goals (
               go_meet
               exact kW HR3.out pR.out HM.out gW Hu.out hkn EC.out M9.out (by omega) (by simp) hown3 (by unfold maxLen;omega))
             case JV=>
              go_simp
              refine hK.out _ _ (fun _=>lM.out _ (((Below.refl _ _).drew.alloc (Nat.le_refl _) _).alloc (by simp<;>omega) _)) (fun hS=> ?_)
              replace hS:=hS (by decide)
              clear hK K
              try simp only[Act.put,List.setIfInBounds_toArray,List.set_cons_zero,List.set_cons_succ]
              refine aj (rs:=[8]) (by kernel_rfl) (by simp) ?_
              refine ah.cons (o:= ?o19) ?J8 (fun K hK=> ?_) ah.nil
              case J8=>simp only[List.getElem?_toArray,List.getElem?_cons_succ,List.getElem?_cons_zero];rfl
              refine bB (by rfl) (.tmp 98) (.tmp 104) 86 (by rfl) w5.heap.size 39 _ _ 1 24 Tryz.underlying86 HI1.out.1 HI1.out.2.1 HI1.out.2.2.1 HI1.out.2.2.2 rfl (by omega) _ 0 [] (by rfl) (bZ (dK w5 _ _).1 (Nat.le_refl _)) _ k _ (vs.take k) (by rfl) (kR.out _ (((Below.refl _ _).drew.alloc (Nat.le_refl _) _).alloc (by simp<;>omega) _)).1 mg.out.1 (by unfold maxLen;omega) (by omega) (by simp<;>omega) ?_
              intro A1 c1 u1 hown1 hb1 hg1
              have hB1:Below w5.heap.size w5 u1:=(((Below.refl _ _).drew.alloc (Nat.le_refl _) _).alloc (by simp<;>omega) _).trans hb1
              have hrow:=(gJ (vs:=[Value.slice none 0 0]) (dK w5 (.cells #[] 39) (.cells [Value.slice none 0 0].toArray 39)).2 (by simp[newC,maxLen])).grown hg1 (fun b hb hbw=>by subst hb;simp[Value.ownBlock])
              refine hK.out _ _ (fun _=>lM.out _ hB1) (fun hS=> ?_)
              replace hS:=hS (by decide)
              clear hK K
              try simp only[Act.put,List.setIfInBounds_toArray,List.set_cons_zero,List.set_cons_succ]
              refine aj (rs:=[10]) (by kernel_rfl) (by simp) ?_
              refine ah.cons (o:= ?o20) ?J9 (fun K hK=> ?_) ah.nil
              case J9=>simp only[List.getElem?_toArray,List.getElem?_cons_succ,List.getElem?_cons_zero];rfl
              refine au (by rfl) (.tmp 105) (.tmp 106) 86 (by rfl) w5.heap.size 39 _ _ 1 24 Tryz.underlying86 HI1.out.1 HI1.out.2.1 HI1.out.2.2.1 HI1.out.2.2.2 rfl (by omega) _ _ _ (by rfl) hown1 _ 1 _ [Value.slice none 0 0] (by rfl) hrow (by intro u hu;simp only[List.mem_singleton]at hu;subst hu;rfl) (by unfold maxLen;omega) (by omega) hB1.size ?_
              intro A2 c2 u2 hown2 hb2
              have hB2:Below w5.heap.size w5 u2:=hB1.trans hb2
              refine hK.out _ _ (fun _=>lM.out _ hB2) (fun hS=> ?_)
              replace hS:=hS (by decide)
              clear hK K
              try simp only[Act.put,List.setIfInBounds_toArray,List.set_cons_zero,List.set_cons_succ]
              refine aj (rs:=[17]) (by kernel_rfl) (by simp) ?_
              refine ah.cons (o:= ?o21) ?J_ (fun K hK=> ?_) ah.nil
              case J_=>simp only[List.getElem?_toArray,List.getElem?_cons_succ,List.getElem?_cons_zero];rfl
              refine au (by rfl) (.tmp 107) (.tmp 113) 86 (by rfl) w5.heap.size 39 _ _ 1 24 Tryz.underlying86 HI1.out.1 HI1.out.2.1 HI1.out.2.2.1 HI1.out.2.2.2 rfl (by omega) _ _ _ (by rfl) hown2 _ (n-k) _ (vs.drop k) (by rfl) (kR.out _ hB2).2 mg.out.2 (by unfold maxLen;omega) (by omega) hB2.size ?_
              intro A3 c3 u3 hown3 hb3
              have gW:Below w5.heap.size w5 u3:=hB2.trans hb3
              refine hK.out _ _ (fun _=>lM.out _ gW) (fun hS=> ?_)
              replace hS:=hS (by decide)
              clear hK K
              try simp only[Act.put,List.setIfInBounds_toArray,List.set_cons_zero,List.set_cons_succ]
              refine aC 18 (hS:=hS) (h:= ?_)
              refine aC 19 (hS:=hS) (h:= ?_)
              refine dh 20 (h:=fun K hK=> ?_)
              go_simp
              refine hK.out _ _ (fun h=>absurd rfl h) (fun hS=> ?_)
              clear hS hK K
              try simp only[Act.put,List.setIfInBounds_toArray,List.set_cons_zero,List.set_cons_succ]
              refine aG (by kernel_rfl) ?_ _
              refine NoPanic.normal ?_
              go_wp2_with fail
              all_goals (
               go_meet
               exact kW HR3.out pR.out HM.out gW Hu.out hkn EC.out M9.out (by omega) (by simp) hown3 (by unfold maxLen;omega))
            case wb=>
             go_simp
             refine hK.out _ _ (fun _=>lM.out _ ((Below.refl _ _).drew.alloc (Nat.le_refl _) _)) (fun hS=> ?_)
             replace hS:=hS (by decide)
             clear hK K
             try simp only[Act.put,List.setIfInBounds_toArray,List.set_cons_zero,List.set_cons_succ]
             refine dh 1 (h:=fun K hK=> ?_)
             go_simp
             refine hK.out _ _ (fun _=>lM.out _ (((Below.refl _ _).drew.alloc (Nat.le_refl _) _).alloc (by simp<;>omega) _)) (fun hS=> ?_)
             replace hS:=hS (by decide)
             clear hK K
             try simp only[Act.put,List.setIfInBounds_toArray,List.set_cons_zero,List.set_cons_succ]
             refine aj (rs:=[8]) (by kernel_rfl) (by simp) ?_
             refine ah.cons (o:= ?o22) ?Ka (fun K hK=> ?_) ah.nil
             case Ka=>simp only[List.getElem?_toArray,List.getElem?_cons_succ,List.getElem?_cons_zero];rfl
             refine bB (by rfl) (.tmp 98) (.tmp 104) 86 (by rfl) w5.heap.size 39 _ _ 1 24 Tryz.underlying86 HI1.out.1 HI1.out.2.1 HI1.out.2.2.1 HI1.out.2.2.2 rfl (by omega) _ 0 [] (by rfl) (bZ (dK w5 _ _).2 (by omega)) _ k _ (vs.take k) (by rfl) (kR.out _ (((Below.refl _ _).drew.alloc (Nat.le_refl _) _).alloc (by simp<;>omega) _)).1 mg.out.1 (by unfold maxLen;omega) (by omega) (by simp<;>omega) ?_
             intro A1 c1 u1 hown1 hb1 hg1
             have hB1:Below w5.heap.size w5 u1:=(((Below.refl _ _).drew.alloc (Nat.le_refl _) _).alloc (by simp<;>omega) _).trans hb1
             have hrow:=(gJ (vs:=[Value.slice none 0 0]) (dK w5 (.cells [Value.slice none 0 0].toArray 39) (.cells #[] 39)).1 (by simp[newC,maxLen])).grown hg1 (fun b hb hbw=>by subst hb;simp[Value.ownBlock])
             refine hK.out _ _ (fun _=>lM.out _ hB1) (fun hS=> ?_)
             replace hS:=hS (by decide)
             clear hK K
             try simp only[Act.put,List.setIfInBounds_toArray,List.set_cons_zero,List.set_cons_succ]
             refine aj (rs:=[10]) (by kernel_rfl) (by simp) ?_
             refine ah.cons (o:= ?o23) ?Kc (fun K hK=> ?_) ah.nil
             case Kc=>simp only[List.getElem?_toArray,List.getElem?_cons_succ,List.getElem?_cons_zero];rfl
             refine au (by rfl) (.tmp 105) (.tmp 106) 86 (by rfl) w5.heap.size 39 _ _ 1 24 Tryz.underlying86 HI1.out.1 HI1.out.2.1 HI1.out.2.2.1 HI1.out.2.2.2 rfl (by omega) _ _ _ (by rfl) hown1 _ 1 _ [Value.slice none 0 0] (by rfl) hrow (by intro u hu;simp only[List.mem_singleton]at hu;subst hu;rfl) (by unfold maxLen;omega) (by omega) hB1.size ?_
             intro A2 c2 u2 hown2 hb2
             have hB2:Below w5.heap.size w5 u2:=hB1.trans hb2
             refine hK.out _ _ (fun _=>lM.out _ hB2) (fun hS=> ?_)
             replace hS:=hS (by decide)
             clear hK K
             try simp only[Act.put,List.setIfInBounds_toArray,List.set_cons_zero,List.set_cons_succ]
             refine aj (rs:=[17]) (by kernel_rfl) (by simp) ?_
             refine ah.cons (o:= ?o24) ?Ke (fun K hK=> ?_) ah.nil
             case Ke=>simp only[List.getElem?_toArray,List.getElem?_cons_succ,List.getElem?_cons_zero];rfl
             refine au (by rfl) (.tmp 107) (.tmp 113) 86 (by rfl) w5.heap.size 39 _ _ 1 24 Tryz.underlying86 HI1.out.1 HI1.out.2.1 HI1.out.2.2.1 HI1.out.2.2.2 rfl (by omega) _ _ _ (by rfl) hown2 _ (n-k) _ (vs.drop k) (by rfl) (kR.out _ hB2).2 mg.out.2 (by unfold maxLen;omega) (by omega) hB2.size ?_
             intro A3 c3 u3 hown3 hb3
             have gW:Below w5.heap.size w5 u3:=hB2.trans hb3
             refine hK.out _ _ (fun _=>lM.out _ gW) (fun hS=> ?_)
             replace hS:=hS (by decide)
             clear hK K
             try simp only[Act.put,List.setIfInBounds_toArray,List.set_cons_zero,List.set_cons_succ]
             refine aC 18 (hS:=hS) (h:= ?_)
             refine aC 19 (hS:=hS) (h:= ?_)
             refine dh 20 (h:=fun K hK=> ?_)
             go_simp
             refine hK.out _ _ (fun h=>absurd rfl h) (fun hS=> ?_)
             clear hS hK K
             try simp only[Act.put,List.setIfInBounds_toArray,List.set_cons_zero,List.set_cons_succ]
             refine aG (by kernel_rfl) ?_ _
             refine NoPanic.normal ?_
             go_wp2_with fail
             all_goals (
              go_meet
              exact kW HR3.out pR.out HM.out gW Hu.out hkn EC.out M9.out (by omega) (by simp) hown3 (by unfold maxLen;omega))
           case rest=>
            obtain⟨w6,rfl⟩:∃w6:World,w6=wc:=⟨_,rfl⟩
            rw[←wC Ho.out]at hcut
            have zk:Hid (dJ F w3 r (bP gL (i:Int) (aX kind) T) (.tuple #[]) (.returned (.tuple #[])) w6):=hcut
            have HAD:=Lib.hid (Ez d2 n2 i x2 w6 zk.out.2.2 AY.out Hw.out.1 Hw.out.2)
            clear hcut
            go_wp2_with fail
            (with_reducible refine HAD.out.mono ?_)
            rintro e w7 Kk
            have TD:=Lib.hid Kk
            obtain rfl:=Kk.1
            clear Kk
            go_wp2_with fail
            go_ret2
            rw[HQ.out]
            exact(cu.behind HH.out.low HB3.out (zk.out.trans HR3.out.low TD.out)).val _
      |true=>
       go_enter Tryz.func13,Tryz.ntmps13
       go_wp2_with fail
       (with_reducible refine H1.out.mono ?_)
       rintro e w1 ⟨rfl,hb1⟩
       have HB1:=Lib.hid hb1
       clear hb1
       go_wp2_with fail
       (with_reducible refine(H3.out w1 HB1.out).mono ?_)
       rintro e w3 ⟨rfl,hb3⟩
       have HB3:=Lib.hid (HB1.out.trans (hb3.mono HB1.out.size))
       clear hb3
       go_wp2_with fail
       (with_reducible refine(Kh.out w3 HB3.out).mono ?_)
       rintro e w4 ⟨rfl,rfl⟩
       have uF:=HH.out.below HB3.out (Nat.le_refl _)
       have HAT:=Lib.hid (fun i=>pJ i w3 uF (by have:=fV.out;omega))
       obtain⟨aN,cN,aD,cD,aE,cE,h1,h2,h3,h4,h8,h9,h10,h11⟩:=uF.head
       obtain⟨p0,p1,p2,pf⟩:=dY h1
       rw[←fV.out]at p0
       have hrw:r<w3.heap.size:=uF.low r uF.own
       have HR3:=Lib.hid uF
       have pR:=Lib.hid h1
       have PY:=Lib.hid h8
       have Mv:=Lib.hid h9
       have hNc:n≤cN:=by have:=fV.out;omega
       have XP:n≤cD:=by have:=fV.out;rw[List.length_map]at h3;omega
       have XQ:=pf 0
       clear uF h1 h2 h3 h4 h8 h9 h10 h11 p1 p2 pf
       go_wp2_with fail
       go_loop [11] (fun v=>∃i:Nat,1≤i∧i≤f∧v= .int .i64 i) (fun v=>f-(intOf v).toNat)
       case atStart=>exact⟨1,by omega,hf1,rfl⟩
       case round=>
        obtain⟨i,hi1,hi2,rfl⟩:=hrel
        have HA:=Lib.hid (HAT.out (i:Int))
        by_cases hlt:i<f
        ·obtain⟨y,hy⟩:=Option.isSome_iff_exists.1 (Vn.out i hi1 hlt)
         obtain⟨k,hk,-⟩:=jw HT.out.sorted hy
         rw[hk]at HA
         have m0:¬(k:Int)<0:=by omega
         have m1:(0:Int)≤k:=by omega
         clear hy hk
         go_wp2_with fail
         (with_reducible refine HA.out.mono ?_)
         rintro e w4 ⟨rfl,rfl⟩
         go_wp2_with fail
         go_round
         case rel=>exact⟨i+1,by omega,by omega,by go_num⟩
         case measure=>simp[intOf];omega
        ·obtain rfl:i=f:=by omega
         rw[rH Ho.out]at HA
         clear hlt hi1 hi2
         go_wp2_with fail
         (with_reducible refine HA.out.mono ?_)
         rintro e w4 ⟨rfl,rfl⟩
         go_upto_block 2 with(fail)
         go_cut [12]from 51 to 71 (fun v wx=>uf T i w3 v wx)
         case first=>
          go_wp2_with fail
          go_loop [12] (fun v=>∃k:Nat,k≤n∧v= .int .i64 k∧(T.take k).all (fun q=>decide (q.1<(i:Int)))=true) (fun v=>n-(intOf v).toNat)
          case atStart=>exact⟨0,by omega,rfl,by simp⟩
          case round=>
           obtain⟨k,hk,rfl,hall⟩:=hrel
           have qz:=Lib.hid hall
           clear hall
           by_cases hlt:k<n
           ·have hx:T[k]? =some (T[k]'(by have:=fV.out;omega)):=List.getElem?_eq_getElem _
            obtain⟨q,hq⟩:∃q,q=T[k]'(by have:=fV.out;omega):=⟨_,rfl⟩
            rw[←hq]at hx
            have TK:=Lib.hid hx
            obtain⟨b,off,rfl,hF,hb,hi,hcc⟩:=PY.out.wide dG rfl hx (by omega)
            have q0:w3.cell? ⟨b,off+k*6,none⟩=some (.int .i64 q.1):=hcc 0 (by omega)
            clear hx hq hcc
            have i0:(0:Int)≤k:=by omega
            have i1:(k:Int)<n:=by omega
            by_cases hp:q.1<(i:Int)
            ·have e1:decide (q.1<(i:Int))=true:=by simpa using hp
             have HST:=Lib.hid (mR qz.out TK.out e1)
             clear hp
             go_wp2
             go_round
             case rel=>exact⟨k+1,by omega,by go_num,HST.out⟩
             case measure=>simp[intOf];omega
            ·have e1:decide (q.1<(i:Int))=false:=by simpa using hp
             have PZ:=Lib.hid (uf.of (w:=w3) HT.out.sorted Ho.out (by have:=fV.out;omega) qz.out (fun x hx=>by have:=TK.out;rw[this]at hx;cases hx;exact e1))
             clear hp
             go_wp2
             go_meet
             exact PZ.out
           ·have PZ:=Lib.hid (uf.of (w:=w3) (k:=k) HT.out.sorted Ho.out (by have:=fV.out;omega) qz.out (fun x hx=>by
             have:=fV.out
             rw[List.getElem?_eq_none (by omega)]at hx
             cases hx))
            go_wp2
            go_meet
            exact PZ.out
         case rest=>
          obtain⟨k,hk,rfl,hput,rfl⟩:=hcut
          have hkn:k≤n:=by have:=fV.out;omega
          have hn1:0<n:=by
           obtain⟨z,hz⟩:=Option.isSome_iff_exists.1 (gG HT.out)
           have:=List.length_pos_of_mem (eD hz)
           have:=fV.out
           omega
          have h1:=pR.out
          rw[List.length_map,←fV.out]at h1
          have h8:=PY.out
          rw[←fV.out]at h8
          obtain⟨bN,oN,rfl,-,-,-⟩:=h8.at_ (by omega)
          obtain⟨vs,hv,ug⟩:=Mv.out
          rw[List.length_map,←fV.out]at hv
          obtain⟨bD,oD,rfl,-,-,-⟩:=hv.at_ (by omega)
          have hlv:=hv.length
          replace pR:=Lib.hid h1
          obtain⟨p0,p1,p2,pf⟩:=dY h1
          have mh:Hid (∀w4,Below w3.heap.size w3 w4→w4.cell? ⟨r,0,none⟩=some (.slice (some ⟨bN,oN,none⟩) n cN)∧w4.frozen? ⟨r,0,none⟩=false):=fun w4 hb=>⟨by rw[hb.cell (p:=⟨r,0,none⟩) hrw];exact p0,by rw[hb.frozen (p:=⟨r,0,none⟩) hrw];exact pf 0⟩
          have zZ:Hid (∀w4,Below w3.heap.size w3 w4→ak (Off F r) w4 (some ⟨bN,oN,none⟩) (k*6) ((T.take k).flatMap bA)∧ak (Off F r) w4 (if cN=k then some ⟨bN,oN,none⟩else some ⟨bN,oN+k*6,none⟩) ((n-k)*6) ((T.drop k).flatMap bA)):=fun w4 hb=>by
           have:=rP (c:=cN) h8 hkn hNc hb
           rwa [jK bA 6 dG,jL bA 6 dG]at this
          obtain⟨i6,a6,b6,s6,d6⟩:=info_parts nodeInfo
          have fA:=Lib.hid (And.intro a6 (And.intro b6 (And.intro s6 d6)))
          obtain⟨i1,a1,b1,s1,d1⟩:=info_parts oO
          have HI1:=Lib.hid (And.intro a1 (And.intro b1 (And.intro s1 d1)))
          have HV:=Lib.hid hv
          have M9:=Lib.hid hlv
          have EC:Hid (Each (Off F r) w3 vs (T.map fun q=>q.2.b)):=ug
          have mg:=Lib.hid (And.intro (fun u hu=>Each.one (F:=Off F r) (w:=w3) EC.out (by rw[List.length_map,←fV.out];exact hlv) u (List.mem_of_mem_take hu):∀u∈vs.take k,u.oneCell'=true) (fun u hu=>Each.one (F:=Off F r) (w:=w3) EC.out (by rw[List.length_map,←fV.out];exact hlv) u (List.mem_of_mem_drop hu):∀u∈vs.drop k,u.oneCell'=true))
          have Hu:Hid ((bP gL (i:Int) (aX kind) T).map (fun q=>q.2.b)=(T.map fun q=>q.2.b).take k++[]::(T.map fun q=>q.2.b).drop k∧(T.map fun q=>q.2.b).length=n):=by
           refine⟨?_,by rw[List.length_map];exact fV.out.symm⟩
           rw[hput,List.map_append,List.map_cons,List.map_take,List.map_drop]
           rfl
          have P5:Hid (bP gL (i:Int) (aX kind) T=T.take k++((i:Int),aX kind)::T.drop k∧true=decide (kind=2)):=⟨hput _,TJ.out.symm⟩
          have i0:(0:Int)≤k:=by omega
          have Ti:(k:Int)≤cN:=by omega
          have i2:(k:Int)≤n:=by omega
          have i4:(n:Int)≤cN:=by omega
          have i5:(k:Int)≤cD:=by omega
          have i6':(n:Int)≤cD:=by omega
          clear a6 b6 s6 d6 a1 b1 s1 d1 h1 h8 hv ug hlv p0 p1 p2 pf hput hk
          go_upto_region 19 with(fail)
          go_cut [] (fun wx=>bq w3 r (.slice (some ⟨bD,oD,none⟩) n cD) (.slice aE (aQ T).length cE) (bP gL (i:Int) (aX kind) T) wx)
          case first=>
           go_wp2
           refine wp_region_noPanic ?_
           refine aH (last:=25) (S:=(fun w'=>w'.cell? ⟨r,0,none⟩=some (.slice (some ⟨bN,oN,none⟩) n cN)∧w'.frozen? ⟨r,0,none⟩=false)) (by kernel_rfl) ?_ (fun hS=> ?_)
           ·exact mh.out _ (Below.refl _ _).drew
           refine aC 0 (hS:=hS) (h:= ?_)
           refine aC 2 (hS:=hS) (h:= ?_)
           refine aC 3 (hS:=hS) (h:= ?_)
           refine aC 4 (hS:=hS) (h:= ?_)
           refine aC 5 (hS:=hS) (h:= ?_)
           refine aC 6 (hS:=hS) (h:= ?_)
           refine aC 7 (hS:=hS) (h:= ?_)
           refine aC 9 (hS:=hS) (h:= ?_)
           refine aC 10 (hS:=hS) (h:= ?_)
           refine aC 11 (hS:=hS) (h:= ?_)
           refine aC 12 (hS:=hS) (h:= ?_)
           refine aC 13 (hS:=hS) (h:= ?_)
           refine aC 16 (hS:=hS) (h:= ?_)
           refine aC 17 (hS:=hS) (h:= ?_)
           refine aC 18 (hS:=hS) (h:= ?_)
           refine aC 19 (hS:=hS) (h:= ?_)
           refine aC 20 (hS:=hS) (h:= ?_)
           refine aC 21 (hS:=hS) (h:= ?_)
           refine aj (rs:=[1,14]) (by kernel_rfl) (by simp) ?_
           refine ah.cons (o:= ?o25) ?P6 (fun K hK=> ?wa) (ah.cons (o:= ?o26) ?P7 (fun K hK=> ?wb) ah.nil)
           case P6=>simp only[List.getElem?_toArray,List.getElem?_cons_succ,List.getElem?_cons_zero];rfl
           case P7=>simp only[List.getElem?_toArray,List.getElem?_cons_succ,List.getElem?_cons_zero];rfl
           case wa=>
            go_simp
            refine hK.out _ _ (fun _=>mh.out _ ((Below.refl _ _).drew.alloc (Nat.le_refl _) _)) (fun hS=> ?_)
            replace hS:=hS (by decide)
            clear hK K
            try simp only[Act.put,List.setIfInBounds_toArray,List.set_cons_zero,List.set_cons_succ]
            refine aj (rs:=[8,14]) (by kernel_rfl) (by simp) ?_
            refine ah.cons (o:= ?o27) ?P8 (fun K hK=> ?JU) (ah.cons (o:= ?o28) ?P9 (fun K hK=> ?JV) ah.nil)
            case P8=>simp only[List.getElem?_toArray,List.getElem?_cons_succ,List.getElem?_cons_zero];rfl
            case P9=>simp only[List.getElem?_toArray,List.getElem?_cons_succ,List.getElem?_cons_zero];rfl
            case JU=>
             refine au (by rfl) (.tmp 73) (.tmp 79) 99 (by rfl) w3.heap.size 98 _ _ 6 48 Tryz.underlying99 fA.out.1 fA.out.2.1 fA.out.2.2.1 fA.out.2.2.2 rfl (by omega) _ 0 [] (by rfl) (bZ (MapKept.heap_alloc w3.drew _).1 (Nat.le_refl _)) _ k _ ((T.take k).flatMap bA) (by rfl) (zZ.out _ ((Below.refl _ _).drew.alloc (Nat.le_refl _) _)).1 (dx _) (by unfold maxLen;omega) (by omega) (by simp<;>omega) ?_
             intro A1 c1 u1 hown0 hb1
             have hB0:Below w3.heap.size w3 u1:=((Below.refl _ _).drew.alloc (Nat.le_refl _) _).trans hb1
             refine hK.out _ _ (fun _=>mh.out _ hB0) (fun hS=> ?_)
             replace hS:=hS (by decide)
             clear hK K
             try simp only[Act.put,List.setIfInBounds_toArray,List.set_cons_zero,List.set_cons_succ]
             refine dh 14 (h:=fun K hK=> ?_)
             go_simp
             refine hK.out _ _ (fun _=>mh.out _ (hB0.alloc hB0.size _)) (fun hS=> ?_)
             replace hS:=hS (by decide)
             clear hK K
             try simp only[Act.put,List.setIfInBounds_toArray,List.set_cons_zero,List.set_cons_succ]
             rw[Nat.zero_add]at hown0
             have hown1:=own_below hown0 ((Below.refl _ _).alloc (Nat.le_refl _) (.cells (newC (i:Int) kind true).toArray 98))
             have hrow:=fC (w:=u1) (newC (i:Int) kind true) 98 (by simp[newC,maxLen])
             have hB1:Below w3.heap.size w3 (u1.alloc (.cells (newC (i:Int) kind true).toArray 98)):=hB0.alloc hB0.size _
             refine aj (rs:=[15]) (by kernel_rfl) (by simp) ?_
             refine ah.cons (o:= ?o29) ?P_ (fun K hK=> ?_) ah.nil
             case P_=>simp only[List.getElem?_toArray,List.getElem?_cons_succ,List.getElem?_cons_zero];rfl
             refine au (by rfl) (.tmp 80) (.tmp 86) 99 (by rfl) w3.heap.size 98 _ _ 6 48 Tryz.underlying99 fA.out.1 fA.out.2.1 fA.out.2.2.1 fA.out.2.2.2 rfl (by omega) _ _ _ (by rfl) hown1 _ 1 _ (newC (i:Int) kind true) (by rfl) hrow (nA _ _ _) (by unfold maxLen;omega) (by omega) hB1.size ?_
             intro A2 c2 u2 hown2 hb2
             have hB2:Below w3.heap.size w3 u2:=hB1.trans hb2
             refine hK.out _ _ (fun _=>mh.out _ hB2) (fun hS=> ?_)
             replace hS:=hS (by decide)
             clear hK K
             try simp only[Act.put,List.setIfInBounds_toArray,List.set_cons_zero,List.set_cons_succ]
             refine aj (rs:=[22]) (by kernel_rfl) (by simp) ?_
             refine ah.cons (o:= ?o30) ?Qa (fun K hK=> ?_) ah.nil
             case Qa=>simp only[List.getElem?_toArray,List.getElem?_cons_succ,List.getElem?_cons_zero];rfl
             refine au (by rfl) (.tmp 87) (.tmp 93) 99 (by rfl) w3.heap.size 98 _ _ 6 48 Tryz.underlying99 fA.out.1 fA.out.2.1 fA.out.2.2.1 fA.out.2.2.2 rfl (by omega) _ _ _ (by rfl) hown2 _ (n-k) _ ((T.drop k).flatMap bA) (by rfl) (zZ.out _ hB2).2 (dx _) (by unfold maxLen;omega) (by omega) hB2.size ?_
             intro A3 c3 u3 hown3 hb3
             have gW:Below w3.heap.size w3 u3:=hB2.trans hb3
             refine hK.out _ _ (fun _=>mh.out _ gW) (fun hS=> ?_)
             replace hS:=hS (by decide)
             clear hK K
             try simp only[Act.put,List.setIfInBounds_toArray,List.set_cons_zero,List.set_cons_succ]
             refine aC 23 (hS:=hS) (h:= ?_)
             refine aC 24 (hS:=hS) (h:= ?_)
             refine dh 25 (h:=fun K hK=> ?_)
             go_simp
             refine hK.out _ _ (fun h=>absurd rfl h) (fun hS=> ?_)
             clear hS hK K
             try simp only[Act.put,List.setIfInBounds_toArray,List.set_cons_zero,List.set_cons_succ]
             refine aG (by kernel_rfl) ?_ _
             refine NoPanic.normal ?_
             go_wp2_with fail
             all_goals (
              go_meet
              exact jN hrw pR.out gW P5.out fV.out hkn (by omega) (by simp) hown3 (by unfold maxLen;omega))
            case JV=>
             go_simp
             refine hK.out _ _ (fun _=>mh.out _ (((Below.refl _ _).drew.alloc (Nat.le_refl _) _).alloc (by simp<;>omega) _)) (fun hS=> ?_)
             replace hS:=hS (by decide)
             clear hK K
             try simp only[Act.put,List.setIfInBounds_toArray,List.set_cons_zero,List.set_cons_succ]
             refine aj (rs:=[8]) (by kernel_rfl) (by simp) ?_
             refine ah.cons (o:= ?o31) ?Qb (fun K hK=> ?_) ah.nil
             case Qb=>simp only[List.getElem?_toArray,List.getElem?_cons_succ,List.getElem?_cons_zero];rfl
             refine bB (by rfl) (.tmp 73) (.tmp 79) 99 (by rfl) w3.heap.size 98 _ _ 6 48 Tryz.underlying99 fA.out.1 fA.out.2.1 fA.out.2.2.1 fA.out.2.2.2 rfl (by omega) _ 0 [] (by rfl) (bZ (dK w3 _ _).1 (Nat.le_refl _)) _ k _ ((T.take k).flatMap bA) (by rfl) (zZ.out _ (((Below.refl _ _).drew.alloc (Nat.le_refl _) _).alloc (by simp<;>omega) _)).1 (dx _) (by unfold maxLen;omega) (by omega) (by simp<;>omega) ?_
             intro A1 c1 u1 hown1 hb1 hg1
             have hB1:Below w3.heap.size w3 u1:=(((Below.refl _ _).drew.alloc (Nat.le_refl _) _).alloc (by simp<;>omega) _).trans hb1
             have hrow:=(gJ (vs:=(newC (i:Int) kind true)) (dK w3 (.cells #[] 98) (.cells (newC (i:Int) kind true).toArray 98)).2 (by simp[newC,maxLen])).grown hg1 (fun b hb hbw=>by subst hb;simp[Value.ownBlock])
             refine hK.out _ _ (fun _=>mh.out _ hB1) (fun hS=> ?_)
             replace hS:=hS (by decide)
             clear hK K
             try simp only[Act.put,List.setIfInBounds_toArray,List.set_cons_zero,List.set_cons_succ]
             refine aj (rs:=[15]) (by kernel_rfl) (by simp) ?_
             refine ah.cons (o:= ?o32) ?Qc (fun K hK=> ?_) ah.nil
             case Qc=>simp only[List.getElem?_toArray,List.getElem?_cons_succ,List.getElem?_cons_zero];rfl
             refine au (by rfl) (.tmp 80) (.tmp 86) 99 (by rfl) w3.heap.size 98 _ _ 6 48 Tryz.underlying99 fA.out.1 fA.out.2.1 fA.out.2.2.1 fA.out.2.2.2 rfl (by omega) _ _ _ (by rfl) hown1 _ 1 _ (newC (i:Int) kind true) (by rfl) hrow (nA _ _ _) (by unfold maxLen;omega) (by omega) hB1.size ?_
             intro A2 c2 u2 hown2 hb2
             have hB2:Below w3.heap.size w3 u2:=hB1.trans hb2
             refine hK.out _ _ (fun _=>mh.out _ hB2) (fun hS=> ?_)
             replace hS:=hS (by decide)
             clear hK K
             try simp only[Act.put,List.setIfInBounds_toArray,List.set_cons_zero,List.set_cons_succ]
             refine aj (rs:=[22]) (by kernel_rfl) (by simp) ?_
             refine ah.cons (o:= ?o33) ?Qd (fun K hK=> ?_) ah.nil
             case Qd=>simp only[List.getElem?_toArray,List.getElem?_cons_succ,List.getElem?_cons_zero];rfl
             refine au (by rfl) (.tmp 87) (.tmp 93) 99 (by rfl) w3.heap.size 98 _ _ 6 48 Tryz.underlying99 fA.out.1 fA.out.2.1 fA.out.2.2.1 fA.out.2.2.2 rfl (by omega) _ _ _ (by rfl) hown2 _ (n-k) _ ((T.drop k).flatMap bA) (by rfl) (zZ.out _ hB2).2 (dx _) (by unfold maxLen;omega) (by omega) hB2.size ?_
             intro A3 c3 u3 hown3 hb3
             have gW:Below w3.heap.size w3 u3:=hB2.trans hb3
             refine hK.out _ _ (fun _=>mh.out _ gW) (fun hS=> ?_)
             replace hS:=hS (by decide)
             clear hK K
             try simp only[Act.put,List.setIfInBounds_toArray,List.set_cons_zero,List.set_cons_succ]
             refine aC 23 (hS:=hS) (h:= ?_)
             refine aC 24 (hS:=hS) (h:= ?_)
             refine dh 25 (h:=fun K hK=> ?_)
             go_simp
             refine hK.out _ _ (fun h=>absurd rfl h) (fun hS=> ?_)
             clear hS hK K
             try simp only[Act.put,List.setIfInBounds_toArray,List.set_cons_zero,List.set_cons_succ]
             refine aG (by kernel_rfl) ?_ _
             refine NoPanic.normal ?_
             go_wp2_with fail
             all_goals (
              go_meet
              exact jN hrw pR.out gW P5.out fV.out hkn (by omega) (by simp) hown3 (by unfold maxLen;omega))
           case wb=>
            go_simp
            refine hK.out _ _ (fun _=>mh.out _ ((Below.refl _ _).drew.alloc (Nat.le_refl _) _)) (fun hS=> ?_)
            replace hS:=hS (by decide)
            clear hK K
            try simp only[Act.put,List.setIfInBounds_toArray,List.set_cons_zero,List.set_cons_succ]
            refine dh 1 (h:=fun K hK=> ?_)
            go_simp
            refine hK.out _ _ (fun _=>mh.out _ (((Below.refl _ _).drew.alloc (Nat.le_refl _) _).alloc (by simp<;>omega) _)) (fun hS=> ?_)
            replace hS:=hS (by decide)
            clear hK K
            try simp only[Act.put,List.setIfInBounds_toArray,List.set_cons_zero,List.set_cons_succ]
            refine aj (rs:=[8]) (by kernel_rfl) (by simp) ?_
            refine ah.cons (o:= ?o34) ?XR (fun K hK=> ?_) ah.nil
            case XR=>simp only[List.getElem?_toArray,List.getElem?_cons_succ,List.getElem?_cons_zero];rfl
            refine bB (by rfl) (.tmp 73) (.tmp 79) 99 (by rfl) w3.heap.size 98 _ _ 6 48 Tryz.underlying99 fA.out.1 fA.out.2.1 fA.out.2.2.1 fA.out.2.2.2 rfl (by omega) _ 0 [] (by rfl) (bZ (dK w3 _ _).2 (by omega)) _ k _ ((T.take k).flatMap bA) (by rfl) (zZ.out _ (((Below.refl _ _).drew.alloc (Nat.le_refl _) _).alloc (by simp<;>omega) _)).1 (dx _) (by unfold maxLen;omega) (by omega) (by simp<;>omega) ?_
            intro A1 c1 u1 hown1 hb1 hg1
            have hB1:Below w3.heap.size w3 u1:=(((Below.refl _ _).drew.alloc (Nat.le_refl _) _).alloc (by simp<;>omega) _).trans hb1
            have hrow:=(gJ (vs:=(newC (i:Int) kind true)) (dK w3 (.cells (newC (i:Int) kind true).toArray 98) (.cells #[] 98)).1 (by simp[newC,maxLen])).grown hg1 (fun b hb hbw=>by subst hb;simp[Value.ownBlock])
            refine hK.out _ _ (fun _=>mh.out _ hB1) (fun hS=> ?_)
            replace hS:=hS (by decide)
            clear hK K
            try simp only[Act.put,List.setIfInBounds_toArray,List.set_cons_zero,List.set_cons_succ]
            refine aj (rs:=[15]) (by kernel_rfl) (by simp) ?_
            refine ah.cons (o:= ?o35) ?XT (fun K hK=> ?_) ah.nil
            case XT=>simp only[List.getElem?_toArray,List.getElem?_cons_succ,List.getElem?_cons_zero];rfl
            refine au (by rfl) (.tmp 80) (.tmp 86) 99 (by rfl) w3.heap.size 98 _ _ 6 48 Tryz.underlying99 fA.out.1 fA.out.2.1 fA.out.2.2.1 fA.out.2.2.2 rfl (by omega) _ _ _ (by rfl) hown1 _ 1 _ (newC (i:Int) kind true) (by rfl) hrow (nA _ _ _) (by unfold maxLen;omega) (by omega) hB1.size ?_
            intro A2 c2 u2 hown2 hb2
            have hB2:Below w3.heap.size w3 u2:=hB1.trans hb2
            refine hK.out _ _ (fun _=>mh.out _ hB2) (fun hS=> ?_)
            replace hS:=hS (by decide)
            clear hK K
            try simp only[Act.put,List.setIfInBounds_toArray,List.set_cons_zero,List.set_cons_succ]
            refine aj (rs:=[22]) (by kernel_rfl) (by simp) ?_
            refine ah.cons (o:= ?o36) ?XU (fun K hK=> ?_) ah.nil
            case XU=>simp only[List.getElem?_toArray,List.getElem?_cons_succ,List.getElem?_cons_zero];rfl
            refine au (by rfl) (.tmp 87) (.tmp 93) 99 (by rfl) w3.heap.size 98 _ _ 6 48 Tryz.underlying99 fA.out.1 fA.out.2.1 fA.out.2.2.1 fA.out.2.2.2 rfl (by omega) _ _ _ (by rfl) hown2 _ (n-k) _ ((T.drop k).flatMap bA) (by rfl) (zZ.out _ hB2).2 (dx _) (by unfold maxLen;omega) (by omega) hB2.size ?_
            intro A3 c3 u3 hown3 hb3
            have gW:Below w3.heap.size w3 u3:=hB2.trans hb3
            refine hK.out _ _ (fun _=>mh.out _ gW) (fun hS=> ?_)
            replace hS:=hS (by decide)
            clear hK K
            try simp only[Act.put,List.setIfInBounds_toArray,List.set_cons_zero,List.set_cons_succ]
            refine aC 23 (hS:=hS) (h:= ?_)
            refine aC 24 (hS:=hS) (h:= ?_)
            refine dh 25 (h:=fun K hK=> ?_)
            go_simp
            refine hK.out _ _ (fun h=>absurd rfl h) (fun hS=> ?_)
            clear hS hK K
            try simp only[Act.put,List.setIfInBounds_toArray,List.set_cons_zero,List.set_cons_succ]
            refine aG (by kernel_rfl) ?_ _
            refine NoPanic.normal ?_
            go_wp2_with fail
            all_goals (
             go_meet
             exact jN hrw pR.out gW P5.out fV.out hkn (by omega) (by simp) hown3 (by unfold maxLen;omega))
          case rest=>
           obtain⟨w5,rfl⟩:∃w5:World,w5=wc:=⟨_,rfl⟩
           have HM:=Lib.hid hcut
           obtain⟨hK,-,aM,cM,h5,-,-,-⟩:=hcut
           obtain⟨p0,p1,p2,pf⟩:=dY h5
           have hs1:=hK.size
           have hr1:r<w5.heap.size:=by omega
           have hv1:ak (Off (Grow F w3 w5) r) w5 (some ⟨bD,oD,none⟩) (n*1) vs:=by rw[Nat.mul_one];exact mE hK HV.out
           have lM:Hid (∀w4,Below w5.heap.size w5 w4→w4.cell? ⟨r,1,none⟩=some (.slice (some ⟨bD,oD,none⟩) n cD)∧w4.frozen? ⟨r,1,none⟩=false):=fun w4 hb=>⟨by rw[hb.cell (p:=⟨r,1,none⟩) hr1];exact p1,by rw[hb.frozen (p:=⟨r,1,none⟩) hr1];exact pf 1⟩
           have kR:Hid (∀w4,Below w5.heap.size w5 w4→ak (Off (Grow F w3 w5) r) w4 (some ⟨bD,oD,none⟩) (k*1) (vs.take k)∧ak (Off (Grow F w3 w5) r) w4 (if cD=k then some ⟨bD,oD,none⟩else some ⟨bD,oD+k,none⟩) ((n-k)*1) (vs.drop k)):=fun w4 hb=>by
            have:=rP (c:=cD) hv1 hkn XP hb
            rw[Nat.mul_one]at this
            simpa only[Nat.mul_one]using this
           clear hK h5 p0 p1 p2 pf hv1
           go_upto_region 20 with(fail)
           go_cut [] (fun wx=>cu F w3 r (bP gL (i:Int) (aX kind) T) ((bP gL (i:Int) (aX kind) T).map fun q=>q.2.b) (aQ T) (.tuple #[]) (.returned (.tuple #[])) wx)
           case first=>
            go_wp2
            refine wp_region_noPanic ?_
            refine aH (last:=20) (S:=(fun w'=>w'.cell? ⟨r,1,none⟩=some (.slice (some ⟨bD,oD,none⟩) n cD)∧w'.frozen? ⟨r,1,none⟩=false)) (by kernel_rfl) ?_ (fun hS=> ?_)
            ·exact lM.out _ (Below.refl _ _).drew
            refine aC 0 (hS:=hS) (h:= ?_)
            refine aC 2 (hS:=hS) (h:= ?_)
            refine aC 3 (hS:=hS) (h:= ?_)
            refine aC 4 (hS:=hS) (h:= ?_)
            refine aC 5 (hS:=hS) (h:= ?_)
            refine aC 6 (hS:=hS) (h:= ?_)
            refine aC 7 (hS:=hS) (h:= ?_)
            refine aC 11 (hS:=hS) (h:= ?_)
            refine aC 12 (hS:=hS) (h:= ?_)
            refine aC 13 (hS:=hS) (h:= ?_)
            refine aC 14 (hS:=hS) (h:= ?_)
            refine aC 15 (hS:=hS) (h:= ?_)
            refine aC 16 (hS:=hS) (h:= ?_)
            refine aj (rs:=[1,9]) (by kernel_rfl) (by simp) ?_
            refine ah.cons (o:= ?o37) ?XV (fun K hK=> ?wa) (ah.cons (o:= ?o38) ?XW (fun K hK=> ?wb) ah.nil)
            case XV=>simp only[List.getElem?_toArray,List.getElem?_cons_succ,List.getElem?_cons_zero];rfl
            case XW=>simp only[List.getElem?_toArray,List.getElem?_cons_succ,List.getElem?_cons_zero];rfl
            case wa=>
             go_simp
             refine hK.out _ _ (fun _=>lM.out _ ((Below.refl _ _).drew.alloc (Nat.le_refl _) _)) (fun hS=> ?_)
             replace hS:=hS (by decide)
             clear hK K
             try simp only[Act.put,List.setIfInBounds_toArray,List.set_cons_zero,List.set_cons_succ]
             refine aj (rs:=[8,9]) (by kernel_rfl) (by simp) ?_
             refine ah.cons (o:= ?o39) ?XY (fun K hK=> ?JU) (ah.cons (o:= ?o40) ?XZ (fun K hK=> ?JV) ah.nil)
             case XY=>simp only[List.getElem?_toArray,List.getElem?_cons_succ,List.getElem?_cons_zero];rfl
             case XZ=>simp only[List.getElem?_toArray,List.getElem?_cons_succ,List.getElem?_cons_zero];rfl
             case JU=>
              refine au (by rfl) (.tmp 98) (.tmp 104) 86 (by rfl) w5.heap.size 39 _ _ 1 24 Tryz.underlying86 HI1.out.1 HI1.out.2.1 HI1.out.2.2.1 HI1.out.2.2.2 rfl (by omega) _ 0 [] (by rfl) (bZ (MapKept.heap_alloc w5.drew _).1 (Nat.le_refl _)) _ k _ (vs.take k) (by rfl) (kR.out _ ((Below.refl _ _).drew.alloc (Nat.le_refl _) _)).1 mg.out.1 (by unfold maxLen;omega) (by omega) (by simp<;>omega) ?_
              intro A1 c1 u1 hown0 hb1
              have hB0:Below w5.heap.size w5 u1:=((Below.refl _ _).drew.alloc (Nat.le_refl _) _).trans hb1
              refine hK.out _ _ (fun _=>lM.out _ hB0) (fun hS=> ?_)
              replace hS:=hS (by decide)
              clear hK K
              try simp only[Act.put,List.setIfInBounds_toArray,List.set_cons_zero,List.set_cons_succ]
              refine dh 9 (h:=fun K hK=> ?_)
              go_simp
              refine hK.out _ _ (fun _=>lM.out _ (hB0.alloc hB0.size _)) (fun hS=> ?_)
              replace hS:=hS (by decide)
              clear hK K
              try simp only[Act.put,List.setIfInBounds_toArray,List.set_cons_zero,List.set_cons_succ]
              rw[Nat.zero_add]at hown0
              have hown1:=own_below hown0 ((Below.refl _ _).alloc (Nat.le_refl _) (.cells [Value.slice none 0 0].toArray 39))
              have hrow:=fC (w:=u1) [Value.slice none 0 0] 39 (by simp[newC,maxLen])
              have hB1:Below w5.heap.size w5 (u1.alloc (.cells [Value.slice none 0 0].toArray 39)):=hB0.alloc hB0.size _
              refine aj (rs:=[10]) (by kernel_rfl) (by simp) ?_
              refine ah.cons (o:= ?o41) ?X0 (fun K hK=> ?_) ah.nil
              case X0=>simp only[List.getElem?_toArray,List.getElem?_cons_succ,List.getElem?_cons_zero];rfl
              refine au (by rfl) (.tmp 105) (.tmp 106) 86 (by rfl) w5.heap.size 39 _ _ 1 24 Tryz.underlying86 HI1.out.1 HI1.out.2.1 HI1.out.2.2.1 HI1.out.2.2.2 rfl (by omega) _ _ _ (by rfl) hown1 _ 1 _ [Value.slice none 0 0] (by rfl) hrow (by intro u hu;simp only[List.mem_singleton]at hu;subst hu;rfl) (by unfold maxLen;omega) (by omega) hB1.size ?_
              intro A2 c2 u2 hown2 hb2
              have hB2:Below w5.heap.size w5 u2:=hB1.trans hb2
              refine hK.out _ _ (fun _=>lM.out _ hB2) (fun hS=> ?_)
              replace hS:=hS (by decide)
              clear hK K
              try simp only[Act.put,List.setIfInBounds_toArray,List.set_cons_zero,List.set_cons_succ]
              refine aj (rs:=[17]) (by kernel_rfl) (by simp) ?_
              refine ah.cons (o:= ?o42) ?X3 (fun K hK=> ?_) ah.nil
              case X3=>simp only[List.getElem?_toArray,List.getElem?_cons_succ,List.getElem?_cons_zero];rfl
              refine au (by rfl) (.tmp 107) (.tmp 113) 86 (by rfl) w5.heap.size 39 _ _ 1 24 Tryz.underlying86 HI1.out.1 HI1.out.2.1 HI1.out.2.2.1 HI1.out.2.2.2 rfl (by omega) _ _ _ (by rfl) hown2 _ (n-k) _ (vs.drop k) (by rfl) (kR.out _ hB2).2 mg.out.2 (by unfold maxLen;omega) (by omega) hB2.size ?_
              intro A3 c3 u3 hown3 hb3
              have gW:Below w5.heap.size w5 u3:=hB2.trans hb3
              refine hK.out _ _ (fun _=>lM.out _ gW) (fun hS=> ?_)
              replace hS:=hS (by decide)
              clear hK K
              try simp only[Act.put,List.setIfInBounds_toArray,List.set_cons_zero,List.set_cons_succ]
              refine aC 18 (hS:=hS) (h:= ?_)
              refine aC 19 (hS:=hS) (h:= ?_)
              refine dh 20 (h:=fun K hK=> ?_)
              go_simp
              refine hK.out _ _ (fun h=>absurd rfl h) (fun hS=> ?_)
              clear hS hK K
              try simp only[Act.put,List.setIfInBounds_toArray,List.set_cons_zero,List.set_cons_succ]
              refine aG (by kernel_rfl) ?_ _
              refine NoPanic.normal ?_
              go_wp2_with fail
              all_goals (
               go_meet
               exact kW HR3.out pR.out HM.out gW Hu.out hkn EC.out M9.out (by omega) (by simp) hown3 (by unfold maxLen;omega))
             case JV=>
              go_simp
              refine hK.out _ _ (fun _=>lM.out _ (((Below.refl _ _).drew.alloc (Nat.le_refl _) _).alloc (by simp<;>omega) _)) (fun hS=> ?_)
              replace hS:=hS (by decide)
              clear hK K
              try simp only[Act.put,List.setIfInBounds_toArray,List.set_cons_zero,List.set_cons_succ]
              refine aj (rs:=[8]) (by kernel_rfl) (by simp) ?_
              refine ah.cons (o:= ?o43) ?X4 (fun K hK=> ?_) ah.nil
              case X4=>simp only[List.getElem?_toArray,List.getElem?_cons_succ,List.getElem?_cons_zero];rfl
              refine bB (by rfl) (.tmp 98) (.tmp 104) 86 (by rfl) w5.heap.size 39 _ _ 1 24 Tryz.underlying86 HI1.out.1 HI1.out.2.1 HI1.out.2.2.1 HI1.out.2.2.2 rfl (by omega) _ 0 [] (by rfl) (bZ (dK w5 _ _).1 (Nat.le_refl _)) _ k _ (vs.take k) (by rfl) (kR.out _ (((Below.refl _ _).drew.alloc (Nat.le_refl _) _).alloc (by simp<;>omega) _)).1 mg.out.1 (by unfold maxLen;omega) (by omega) (by simp<;>omega) ?_
              intro A1 c1 u1 hown1 hb1 hg1
              have hB1:Below w5.heap.size w5 u1:=(((Below.refl _ _).drew.alloc (Nat.le_refl _) _).alloc (by simp<;>omega) _).trans hb1
              have hrow:=(gJ (vs:=[Value.slice none 0 0]) (dK w5 (.cells #[] 39) (.cells [Value.slice none 0 0].toArray 39)).2 (by simp[newC,maxLen])).grown hg1 (fun b hb hbw=>by subst hb;simp[Value.ownBlock])
              refine hK.out _ _ (fun _=>lM.out _ hB1) (fun hS=> ?_)
              replace hS:=hS (by decide)
              clear hK K
              try simp only[Act.put,List.setIfInBounds_toArray,List.set_cons_zero,List.set_cons_succ]
              refine aj (rs:=[10]) (by kernel_rfl) (by simp) ?_
              refine ah.cons (o:= ?o44) ?X5 (fun K hK=> ?_) ah.nil
              case X5=>simp only[List.getElem?_toArray,List.getElem?_cons_succ,List.getElem?_cons_zero];rfl
              refine au (by rfl) (.tmp 105) (.tmp 106) 86 (by rfl) w5.heap.size 39 _ _ 1 24 Tryz.underlying86 HI1.out.1 HI1.out.2.1 HI1.out.2.2.1 HI1.out.2.2.2 rfl (by omega) _ _ _ (by rfl) hown1 _ 1 _ [Value.slice none 0 0] (by rfl) hrow (by intro u hu;simp only[List.mem_singleton]at hu;subst hu;rfl) (by unfold maxLen;omega) (by omega) hB1.size ?_
              intro A2 c2 u2 hown2 hb2
              have hB2:Below w5.heap.size w5 u2:=hB1.trans hb2
              refine hK.out _ _ (fun _=>lM.out _ hB2) (fun hS=> ?_)
              replace hS:=hS (by decide)
              clear hK K
              try simp only[Act.put,List.setIfInBounds_toArray,List.set_cons_zero,List.set_cons_succ]
              refine aj (rs:=[17]) (by kernel_rfl) (by simp) ?_
              refine ah.cons (o:= ?o45) ?X6 (fun K hK=> ?_) ah.nil
              case X6=>simp only[List.getElem?_toArray,List.getElem?_cons_succ,List.getElem?_cons_zero];rfl
              refine au (by rfl) (.tmp 107) (.tmp 113) 86 (by rfl) w5.heap.size 39 _ _ 1 24 Tryz.underlying86 HI1.out.1 HI1.out.2.1 HI1.out.2.2.1 HI1.out.2.2.2 rfl (by omega) _ _ _ (by rfl) hown2 _ (n-k) _ (vs.drop k) (by rfl) (kR.out _ hB2).2 mg.out.2 (by unfold maxLen;omega) (by omega) hB2.size ?_
              intro A3 c3 u3 hown3 hb3
              have gW:Below w5.heap.size w5 u3:=hB2.trans hb3
              refine hK.out _ _ (fun _=>lM.out _ gW) (fun hS=> ?_)
              replace hS:=hS (by decide)
              clear hK K
              try simp only[Act.put,List.setIfInBounds_toArray,List.set_cons_zero,List.set_cons_succ]
              refine aC 18 (hS:=hS) (h:= ?_)
              refine aC 19 (hS:=hS) (h:= ?_)
              refine dh 20 (h:=fun K hK=> ?_)
              go_simp
              refine hK.out _ _ (fun h=>absurd rfl h) (fun hS=> ?_)
              clear hS hK K
              try simp only[Act.put,List.setIfInBounds_toArray,List.set_cons_zero,List.set_cons_succ]
              refine aG (by kernel_rfl) ?_ _
              refine NoPanic.normal ?_
              go_wp2_with fail
              all_goals (
               go_meet
               exact kW HR3.out pR.out HM.out gW Hu.out hkn EC.out M9.out (by omega) (by simp) hown3 (by unfold maxLen;omega))
            case wb=>
             go_simp
             refine hK.out _ _ (fun _=>lM.out _ ((Below.refl _ _).drew.alloc (Nat.le_refl _) _)) (fun hS=> ?_)
             replace hS:=hS (by decide)
             clear hK K
             try simp only[Act.put,List.setIfInBounds_toArray,List.set_cons_zero,List.set_cons_succ]
             refine dh 1 (h:=fun K hK=> ?_)
             go_simp
             refine hK.out _ _ (fun _=>lM.out _ (((Below.refl _ _).drew.alloc (Nat.le_refl _) _).alloc (by simp<;>omega) _)) (fun hS=> ?_)
             replace hS:=hS (by decide)
             clear hK K
             try simp only[Act.put,List.setIfInBounds_toArray,List.set_cons_zero,List.set_cons_succ]
             refine aj (rs:=[8]) (by kernel_rfl) (by simp) ?_
             refine ah.cons (o:= ?o46) ?X7 (fun K hK=> ?_) ah.nil
             case X7=>simp only[List.getElem?_toArray,List.getElem?_cons_succ,List.getElem?_cons_zero];rfl
             refine bB (by rfl) (.tmp 98) (.tmp 104) 86 (by rfl) w5.heap.size 39 _ _ 1 24 Tryz.underlying86 HI1.out.1 HI1.out.2.1 HI1.out.2.2.1 HI1.out.2.2.2 rfl (by omega) _ 0 [] (by rfl) (bZ (dK w5 _ _).2 (by omega)) _ k _ (vs.take k) (by rfl) (kR.out _ (((Below.refl _ _).drew.alloc (Nat.le_refl _) _).alloc (by simp<;>omega) _)).1 mg.out.1 (by unfold maxLen;omega) (by omega) (by simp<;>omega) ?_
             intro A1 c1 u1 hown1 hb1 hg1
             have hB1:Below w5.heap.size w5 u1:=(((Below.refl _ _).drew.alloc (Nat.le_refl _) _).alloc (by simp<;>omega) _).trans hb1
             have hrow:=(gJ (vs:=[Value.slice none 0 0]) (dK w5 (.cells [Value.slice none 0 0].toArray 39) (.cells #[] 39)).1 (by simp[newC,maxLen])).grown hg1 (fun b hb hbw=>by subst hb;simp[Value.ownBlock])
             refine hK.out _ _ (fun _=>lM.out _ hB1) (fun hS=> ?_)
             replace hS:=hS (by decide)
             clear hK K
             try simp only[Act.put,List.setIfInBounds_toArray,List.set_cons_zero,List.set_cons_succ]
             refine aj (rs:=[10]) (by kernel_rfl) (by simp) ?_
             refine ah.cons (o:= ?o47) ?X8 (fun K hK=> ?_) ah.nil
             case X8=>simp only[List.getElem?_toArray,List.getElem?_cons_succ,List.getElem?_cons_zero];rfl
             refine au (by rfl) (.tmp 105) (.tmp 106) 86 (by rfl) w5.heap.size 39 _ _ 1 24 Tryz.underlying86 HI1.out.1 HI1.out.2.1 HI1.out.2.2.1 HI1.out.2.2.2 rfl (by omega) _ _ _ (by rfl) hown1 _ 1 _ [Value.slice none 0 0] (by rfl) hrow (by intro u hu;simp only[List.mem_singleton]at hu;subst hu;rfl) (by unfold maxLen;omega) (by omega) hB1.size ?_
             intro A2 c2 u2 hown2 hb2
             have hB2:Below w5.heap.size w5 u2:=hB1.trans hb2
             refine hK.out _ _ (fun _=>lM.out _ hB2) (fun hS=> ?_)
             replace hS:=hS (by decide)
             clear hK K
             try simp only[Act.put,List.setIfInBounds_toArray,List.set_cons_zero,List.set_cons_succ]
             refine aj (rs:=[17]) (by kernel_rfl) (by simp) ?_
             refine ah.cons (o:= ?o48) ?X9 (fun K hK=> ?_) ah.nil
             case X9=>simp only[List.getElem?_toArray,List.getElem?_cons_succ,List.getElem?_cons_zero];rfl
             refine au (by rfl) (.tmp 107) (.tmp 113) 86 (by rfl) w5.heap.size 39 _ _ 1 24 Tryz.underlying86 HI1.out.1 HI1.out.2.1 HI1.out.2.2.1 HI1.out.2.2.2 rfl (by omega) _ _ _ (by rfl) hown2 _ (n-k) _ (vs.drop k) (by rfl) (kR.out _ hB2).2 mg.out.2 (by unfold maxLen;omega) (by omega) hB2.size ?_
             intro A3 c3 u3 hown3 hb3
             have gW:Below w5.heap.size w5 u3:=hB2.trans hb3
             refine hK.out _ _ (fun _=>lM.out _ gW) (fun hS=> ?_)
             replace hS:=hS (by decide)
             clear hK K
             try simp only[Act.put,List.setIfInBounds_toArray,List.set_cons_zero,List.set_cons_succ]
             refine aC 18 (hS:=hS) (h:= ?_)
             refine aC 19 (hS:=hS) (h:= ?_)
             refine dh 20 (h:=fun K hK=> ?_)
             go_simp
             refine hK.out _ _ (fun h=>absurd rfl h) (fun hS=> ?_)
             clear hS hK K
             try simp only[Act.put,List.setIfInBounds_toArray,List.set_cons_zero,List.set_cons_succ]
             refine aG (by kernel_rfl) ?_ _
             refine NoPanic.normal ?_
             go_wp2_with fail
             all_goals (
              go_meet
              exact kW HR3.out pR.out HM.out gW Hu.out hkn EC.out M9.out (by omega) (by simp) hown3 (by unfold maxLen;omega))
           case rest=>
            obtain⟨w6,rfl⟩:∃w6:World,w6=wc:=⟨_,rfl⟩
            rw[←wC Ho.out]at hcut
            have zk:Hid (dJ F w3 r (bP gL (i:Int) (aX kind) T) (.tuple #[]) (.returned (.tuple #[])) w6):=hcut
            have HAD:=Lib.hid (Ez d2 n2 i x2 w6 zk.out.2.2 AY.out Hw.out.1 Hw.out.2)
            clear hcut
            go_wp2_with fail
            (with_reducible refine HAD.out.mono ?_)
            rintro e w7 Kk
            have TD:=Lib.hid Kk
            obtain rfl:=Kk.1
            clear Kk
            go_wp2_with fail
            go_ret2
            rw[HQ.out]
            exact(cu.behind HH.out.low HB3.out (zk.out.trans HR3.out.low TD.out)).val _
   ·rw[if_pos h3]at hme
    have HQ:=Lib.hid (ny hme h3)
    generalize aV T ls=pl at*
    obtain⟨d2,n2,e2⟩:=pl
    simp only at h3 HQ H3
    have hne:(e2==0)=false:=by simpa using h3
    have hne2:(e2 !=0)=true:=by simpa using h3
    clear h hT hS hE h3 hme h0 hkk hkb xD hc
    cases kb
    all_goals (
     go_enter Tryz.func13,Tryz.ntmps13
     go_wp2_with fail
     (with_reducible refine H1.out.mono ?_)
     rintro e w1 ⟨rfl,hb1⟩
     have HB1:=Lib.hid hb1
     clear hb1
     go_wp2_with fail
     (with_reducible refine(H3.out w1 HB1.out).mono ?_)
     rintro e w3 ⟨rfl,hb3⟩
     have HB3:=Lib.hid (HB1.out.trans (hb3.mono HB1.out.size))
     clear hb3
     go_wp2_with fail
     go_ret2
     exact dJ.Km HH.out HB3.out HQ.out)
  ·have HQ:=Lib.hid (ny (v:=30) (T:=T) (p:=ls) (kind:=kind) (by unfold iA;rw[h0,if_neg (by simp),if_pos hkk]) (by omega))
   have hb1:(kind !=1)=true:=by simp;omega
   have hb2:(kind !=2)=true:=by simp;omega
   clear h hT hS hE h0 hkk hc
   go_enter Tryz.func13,Tryz.ntmps13
   go_wp2_with fail
   (with_reducible refine H1.out.mono ?_)
   rintro e w1 ⟨rfl,hb1⟩
   have HB1:=Lib.hid hb1
   clear hb1
   go_wp2_with fail
   go_ret2
   exact dJ.Km HH.out HB1.out HQ.out
 ·have HQ:=Lib.hid (ny (v:=bV ls) (T:=T) (p:=ls) (kind:=kind) (by unfold iA;rw[if_pos h0]) h0)
  generalize bV ls=f0 at*
  have hne:(f0==0)=false:=by simpa using h0
  have hne2:(f0 !=0)=true:=by simpa using h0
  clear h hT hS hE h0 hc
  go_enter Tryz.func13,Tryz.ntmps13
  go_wp2_with fail
  (with_reducible refine H1.out.mono ?_)
  rintro e w1 ⟨rfl,hb1⟩
  have HB1:=Lib.hid hb1
  clear hb1
  go_wp2_with fail
  go_ret2
  exact dJ.Km HH.out HB1.out HQ.out
end
end Go.Proofs.YtohpcppeajijnaaGreat
