/- package snap: Forget. package state: what Do does, as plain data. All paths of a node, plainly. All paths, whatever the order of a directory's names. slices.Clone of texts: the new row is one's own. What names of package tree gives: paths, behind what was there. path.Join; what Names of package tree orders by. -/
import Derived.Test.YtmabllemjkcobaaGreatDoorM32
import Derived.Test.YtmabllemjkcobaaGreatDoorM27
import Derived.Test.YtmabllemjkcobaaGreatDoorM31
import Derived.Test.YtmabllemjkcobaaGreatDoorM28
import Derived.Test.YtmabllemjkcobaaGreatDoorM17
import Derived.Test.YtmabllemjkcobaaGreatDoorM09
import Derived.Test.YtmabllemjkcobaaGreatDoorM11
namespace Go.Proofs.YtmabllemjkcobaaGreatDoor
open Go.ChangeShapes Go.WideShapes Go.ChangeAt Go.RowKit
set_option linter.unusedVariables false
set_option linter.unusedSimpArgs false
def FT (T:aK) (now:Int):Bool:=decide (0<(lV T now).length)
def J9 (S:nQ) (k:Nat):nQ:=⟨S.l.take k++S.l.drop (k+1),S.next,S.last⟩
def Br (S:nQ) (id now er:Int) (S':nQ):Prop:=
 (er=29∧S'=S∧∀x∈S.l,x.id≠id)∨∃(k:Nat) (x:jJ),S.l[k]? =some x∧x.id=id∧(∀x'∈S.l.take k,x'.id≠id)∧((FT x.t now=true∧er=28∧S'=S)∨(FT x.t now=false∧er=0∧S'=J9 S k))
theorem J_ {F:Nat→Prop} {w w1:World} {b off n c k s:Nat} {vs:List Value} (h:aj F w (some ⟨b,off,none⟩) (n*s) vs) (hk:k<n) (hb:Below w.heap.size w w1):
  aj F w1 (some ⟨b,off,none⟩) (k*s) (vs.take (k*s))∧aj F w1 (if c=k+1 then some ⟨b,off,none⟩else some ⟨b,off+(k+1)*s,none⟩) ((n-(k+1))*s) (vs.drop ((k+1)*s))∨c<n:=by
 by_cases hcn:c<n
 ·exact .inr hcn
 ·left
  have h1:=h.below hb (Nat.le_refl _)
  have h2:=h1.take (k*s)
  have hks:k*s≤n*s:=Nat.mul_le_mul_right s (by omega)
  rw[Nat.min_eq_right hks]at h2
  have h4:=h1.drop ((k+1)*s)
  rw[←Nat.sub_mul]at h4
  refine⟨h2,?_⟩
  by_cases hce:c=k+1
  ·rw[if_pos hce]
   have hl:=h.length
   have hkn:k+1=n:=by omega
   exact aj.zero _ _ _ (by rw[show n-(k+1)=0 by omega,Nat.zero_mul]) (by rw[hkn];exact List.drop_of_length_le (by omega))
  ·rw[if_neg hce];exact h4
theorem oM.one {o:Mark} {w:World} {vs:List Value} {x:jJ} (h:oM o w vs x):∀u∈vs,u.oneCell'=true:=by
 obtain⟨a,c,q,h1,_⟩:=h
 intro u hu
 rw[h1]at hu
 simp only[List.mem_cons,List.not_mem_nil,or_false]at hu
 rcases hu with rfl|rfl|rfl<;>rfl
theorem dh.one {o:Mark} {w:World}:∀{vs:List Value} {l:List jJ},dh o w vs l→∀u∈vs,u.oneCell'=true
 |_,[],h=>by have h1:_=[]:=h;rw[h1];intro u hu;cases hu
 |_,x::r,⟨v1,v2,h1,h2,h3⟩=>by
  intro u hu
  rw[h1]at hu
  rcases List.mem_append.1 hu with hu|hu
  ·exact h2.one u hu
  ·exact dh.one h3 u hu
theorem Ka (w:World) (x y:Value) (t:TypeId):(w.alloc (.cells #[x,y] t)).drew.cell? ⟨w.heap.size,0,none⟩=some x∧(w.alloc (.cells #[x,y] t)).drew.cell? ⟨w.heap.size,1,none⟩=some y∧w.heap.size<(w.alloc (.cells #[x,y] t)).drew.heap.size:=by
 have h:=(MapKept.heap_alloc w (.cells #[x,y] t)).1
 have h2:(w.alloc (.cells #[x,y] t)).drew.heap[w.heap.size]? =some (.cells #[x,y] t (0,0)):=h
 refine⟨?_,?_,?_⟩
 ·unfold World.cell?;simp only[h2];rfl
 ·unfold World.cell?;simp only[h2];rfl
 ·exact(Array.getElem?_eq_some_iff.1 h2).1
section
variable {W w:World} {o:Mark} {i s:Nat} {S:nQ}
theorem FU {w8:World} {v v8:Value} {vals:List Value} {k B lc:Nat} {la:Option Addr} (hM:Marks W o w) (hi:i≠0) (hh:w.heap[s]? =some (.cells #[v, .int .i64 S.next, .slice la S.last.length lc] 101 (0,0)))
  (hos:o s=i) (hsw:s<w.heap.size) (hO:dh o w vals S.l) (hlc:S.last.length≤lc) (hlr:aj (fun b=>o b=0∧b<w.heap.size) w la S.last.length (S.last.map bv)) (hb:Below w.heap.size w w8)
  (hown:w8.ownsRow B 105 3 v8 (S.l.take k++S.l.drop (k+1)).length (vals.take (k*3)++vals.drop ((k+1)*3))) (hB:w.heap.size≤B):
  ∃o',Step o (fun j=>j=i) w o' (w8.setCell ⟨s,0,none⟩ v8)∧dR o' i (w8.setCell ⟨s,0,none⟩ v8) s (J9 S k):=by
 obtain⟨o',hs,h1,h2⟩:=fZ hM i (fun b=>v8.ownBlock=some b) (w':=w8) (fun b hb'=>⟨by have:=dG hown b hb';omega,dY hown b hb'⟩) hb
 have hi0:¬(fun j=>j=i) 0:=fun e=>hi e.symm
 have uQ:w8.heap[s]? =_:=(hb.block s hsw).trans hh
 have hz:=size_set w8 ⟨s,0,none⟩ v8
 have hst:Step o (fun j=>j=i) w o' (w8.setCell ⟨s,0,none⟩ v8):=by
  refine hs.trans ⟨fun _ _=>rfl,fun b hb' hn=> ?_,(Keeps.lN w8 ⟨s,0,none⟩ v8).mono fun x _ hx=>by
   have hx:x=s:=hx
   rw[hx];exact(hs.old s hsw).trans hos⟩
  have:=(hs.new b (Nat.le_trans hb.size hb') hn).2
  omega
 have hst2:Step o (fun j=>j=i) w o' w8:=hs
 refine⟨o',hst,⟨v8,la,lc,_,aX uQ,(hst.old s hsw).trans hos,by have:=hb.size;omega,?_,fun b hb'=> ?_,dh.append ((hO.take k).step hi0 hst) ((hO.drop (k+1)).step hi0 hst),hlc,?_⟩⟩
 ·exact x9 (cK hown fun b hb' _=>bE _ _ _ _ (by have:=dG hown b hb';simp only;omega)) (Nat.zero_le _)
 ·exact⟨h1 b hb',by have:=dG hown b hb';omega,by have:=dY hown b hb';omega⟩
 ·exact hlr.move hst.keep.size fun b hb' _=>⟨⟨(hst.old b hb'.2).trans hb'.1,Nat.lt_of_lt_of_le hb'.2 hst.keep.size⟩,hst.block hb'.2 (by rw[hb'.1];exact hi0)⟩
set_option maxRecDepth 100000 in
set_option maxHeartbeats 8000000 in
theorem FV (hS:dR o i w s S) (hM:Marks W o w) (hi:i≠0) (wJ:S.l.length≤8) (id now:Int):
  Calls Tryz.prog 49 #[ptr s, .int .i64 id, .int .u64 now] w fun e w'=>∃er S' o',e= .returned (.int .i64 er)∧Br S id now er S'∧Step o (fun k=>k=i) w o' w'∧dR o' i w' s S':=by
 have HS:=Lib.hid hS
 have HM:=Lib.hid hM
 obtain⟨v,la,lc,vals,h1,h2,h3,h4,h5,h6,h7,h8⟩:=hS.at_
 obtain⟨a,c,rfl,hcap⟩:=bF h4
 obtain⟨-,-,hrow⟩:=aj.nP h4 (by unfold maxLen;omega)
 have HF:=Lib.hid (Du hS id (by omega))
 have HH:=Lib.hid h1
 have Pf:=Lib.hid h6
 have HLR:=Lib.hid h8
 have uw:=Lib.hid h7
 have YL:=Lib.hid h2
 have dS:=Lib.hid hrow
 obtain⟨n,hn⟩:∃n,n=S.l.length:=⟨_,rfl⟩
 have HN:=Lib.hid hn
 rw[←hn]at hcap wJ
 clear hS hM h1 h2 h4 h5 h6 h7 h8 hrow hn
 go_enter Tryz.func49,Tryz.ntmps49
 go_wp2_with fail
 (with_reducible refine HF.out.mono ?_)
 rintro e w1 ⟨v,rfl,hf,hb1⟩
 have HB1:=Lib.hid hb1
 clear hb1
 rcases hf with⟨rfl,hno⟩|⟨k,x,rfl,hx,hid,hno⟩
 ·have Ht:=Lib.hid hno
  clear hno
  go_wp2_with fail
  go_ret
  exact⟨29,S,o,rfl, .inl ⟨rfl,rfl,Ht.out⟩,Step.grow HM.out HB1.out,HS.out.grow HM.out HB1.out⟩
 ·have hkn:k<n:=by rw[HN.out];exact(List.getElem?_eq_some_iff.1 hx).1
  have HRW:=dS.out
  rw[←HN.out]at HRW
  obtain⟨g,off,rfl,hgw,_,hcell⟩:=HRW.at_ (by omega)
  have HRX:=Lib.hid HRW
  obtain⟨ha,hcp,q,e0,e1,e2,e3,e4,e5,e6⟩:=Pf.out.at_ hx
  have d2:w1.cell? ⟨g,off+k*3+2,none⟩=some (ptr q):=(HB1.out.cell (p:=⟨g,off+k*3+2,none⟩) hgw.2).trans ((hcell (k*3+2) (by omega)).trans e2)
  have hbS:=HB1.out.block s h3
  have c0:w1.cell? ⟨s,0,none⟩=some (.slice (some ⟨g,off,none⟩) n c):=by
   have:=hbS.trans HH.out
   rw[HN.out]
   simp[World.cell?,this]
  obtain⟨gg,D,mb,ib,nb,hA,R7,hD9⟩:=e5.grow HB1.out
  have FW:=Lib.hid (J8 now w1 hA e6)
  have Sc:=Lib.hid (And.intro hx (And.intro hid hno))
  have hneg:¬((k:Int)<0):=by omega
  have i0:(0:Int)≤k:=by omega
  have i1:(k:Int)<n:=by omega
  have i1':(k:Int)≤c:=by omega
  have i2:(k:Int)+1≤n:=by omega
  have i3:(0:Int)≤(k:Int)+1:=by omega
  have i4:(n:Int)≤c:=by omega
  have ew:IntKind.i64.wrap ((k:Int)+1)=(k:Int)+1:=IntWalk.i64_in _ (by omega)
  clear hx hid hno hcell e0 e1 e2 e3 e4 e5 e6 hA R7 hD9 HRW hbS
  obtain⟨bd,hbd⟩:∃bd,bd=decide (0<(lV x.t now).length):=⟨_,rfl⟩
  rw[←hbd]at FW
  have HBE:=Lib.hid hbd
  clear hbd
  cases bd with
  |true=>
   go_wp2_with fail
   (with_reducible refine FW.out.mono ?_)
   rintro e w2 ⟨rfl,hb2⟩
   have HB2:=Lib.hid hb2
   clear hb2
   go_wp2_with fail
   go_ret
   have hB:=HB1.out.trans (HB2.out.mono HB1.out.size)
   exact⟨28,S,o,rfl, .inr ⟨k,x,Sc.out.1,Sc.out.2.1,Sc.out.2.2, .inl ⟨HBE.out.symm,rfl,rfl⟩⟩,Step.grow HM.out hB,HS.out.grow HM.out hB⟩
  |false=>
   go_wp2_with fail
   (with_reducible refine FW.out.mono ?_)
   rintro e w2 ⟨rfl,hb2⟩
   have HB2:=Lib.hid (HB1.out.trans (hb2.mono HB1.out.size))
   have hs2:=hb2.size
   have hs1:=HB1.out.size
   have HK:Hid (∀w',Below w.heap.size w w'→w'.cell? ⟨s,0,none⟩=some (.slice (some ⟨g,off,none⟩) n c)∧w'.frozen? ⟨s,0,none⟩=false):=fun w' hb=>by
    have:=(hb.block s h3).trans HH.out
    rw[HN.out]
    refine⟨?_,?_⟩<;>simp[World.cell?,World.frozen?,this]
   clear c0 d2 hb2
   go_wp2_with fail
   refine wp_region_noPanic ?_
   refine bH (last:=18) (S:=(fun w'=>w'.cell? ⟨s,0,none⟩=some (.slice (some ⟨g,off,none⟩) n c)∧w'.frozen? ⟨s,0,none⟩=false)) (by kernel_rfl) ?_ (fun hS=> ?_)
   ·exact HK.out _ (HB2.out.trans (Below.refl _ _).drew)
   refine bf 0 (hS:=hS) (h:= ?_)
   refine bf 1 (hS:=hS) (h:= ?_)
   refine bf 2 (hS:=hS) (h:= ?_)
   refine bf 3 (hS:=hS) (h:= ?_)
   refine bf 4 (hS:=hS) (h:= ?_)
   refine bf 5 (hS:=hS) (h:= ?_)
   refine bf 6 (hS:=hS) (h:= ?_)
   refine bf 7 (hS:=hS) (h:= ?_)
   refine bf 8 (hS:=hS) (h:= ?_)
   refine bf 9 (hS:=hS) (h:= ?_)
   refine bf 10 (hS:=hS) (h:= ?_)
   refine bf 11 (hS:=hS) (h:= ?_)
   refine bf 12 (hS:=hS) (h:= ?_)
   refine bf 13 (hS:=hS) (h:= ?_)
   obtain⟨A2,hA2⟩:∃A2:Option Addr,A2=if c=k+1 then some ⟨g,off,none⟩else some ⟨g,off+(k+1)*3,none⟩:=⟨_,rfl⟩
   rw[←hA2]
   have HA2:=Lib.hid hA2
   clear hA2
   refine jF 14 (h:=fun K hK=> ?_)
   go_simp
   have Ca:Below w2.heap.size w2 (w2.alloc (.cells #[.slice (some ⟨g,off,none⟩) k c, .slice A2 (n-(k+1)) (c-(k+1))] 99)).drew:=(wall w2 _).trans (Below.refl _ _).drew
   have hBW:Below w.heap.size w (w2.alloc (.cells #[.slice (some ⟨g,off,none⟩) k c, .slice A2 (n-(k+1)) (c-(k+1))] 99)).drew:=HB2.out.trans (Ca.mono HB2.out.size)
   have nA:=Lib.hid hBW
   obtain⟨hC0,hC1,hzA⟩:=Ka w2 (.slice (some ⟨g,off,none⟩) k c) (.slice A2 (n-(k+1)) (c-(k+1))) 99
   have hRR:=(J_ (c:=c) HRX.out hkn hBW).resolve_right (by omega)
   rw[←HA2.out]at hRR
   have hv1:=Pf.out.one
   have hvl:=Pf.out.len
   have hfl:([vals.take (k*3),vals.drop ((k+1)*3)].flatten).length=(k+(n-(k+1)))*3:=by
    rw[←HN.out]at hvl
    simp[hvl];omega
   have M7:=Lib.hid (DV (w2.heap.size) 2 (k+(n-(k+1))) [vals.take (k*3),vals.drop ((k+1)*3)] _ rfl (by omega) hzA hfl (by omega) (fun j hj=>by
    rcases j with _|_|j
    ·exact⟨_,_,_,_,hC0,hRR.1,rfl,fun u hu=>hv1 u (List.mem_of_mem_take hu)⟩
    ·exact⟨_,_,_,_,hC1,hRR.2,rfl,fun u hu=>hv1 u (List.mem_of_mem_drop hu)⟩
    ·omega))
   have HBA:=Lib.hid Ca
   clear Ca hC0 hC1 hRR hv1 hvl hfl hzA
   refine hK.out _ _ (fun _=>HK.out _ hBW) (fun hS=> ?_)
   replace hS:=hS (by decide)
   clear hK K
   try simp only[Act.put,List.setIfInBounds_toArray,List.set_cons_zero,List.set_cons_succ]
   clear hBW
   refine jF 15 (h:=fun K hK=> ?_)
   go_simp
   (with_reducible refine M7.out.mono ?_)
   rintro e w3 ⟨v8,rfl,hown,hb3⟩
   have HB3:=Lib.hid (nA.out.trans (hb3.mono nA.out.size))
   have HOWN:=Lib.hid hown
   obtain⟨a8,c8,rfl,-⟩:=bF hown
   clear hown hb3
   go_wp2_with fail
   refine hK.out _ _ (fun _=>HK.out _ HB3.out) (fun hS=> ?_)
   replace hS:=hS (by decide)
   clear hK K
   try simp only[Act.put,List.setIfInBounds_toArray,List.set_cons_zero,List.set_cons_succ]
   refine bf 16 (hS:=hS) (h:= ?_)
   refine bf 17 (hS:=hS) (h:= ?_)
   refine jF 18 (h:=fun K hK=> ?_)
   go_simp
   refine hK.out _ _ (fun h=>absurd rfl h) (fun hS=> ?_)
   clear hS hK K
   try simp only[Act.put,List.setIfInBounds_toArray,List.set_cons_zero,List.set_cons_succ]
   refine aT (by kernel_rfl) ?_ _
   refine NoPanic.normal ?_
   go_wp2_with fail
   go_ret
   have hlen:(S.l.take k++S.l.drop (k+1)).length=k+(n-(k+1)):=by
    have:=HN.out
    rw[List.length_append,List.length_take,List.length_drop];omega
   have hown:=HOWN.out
   rw[←hlen]at hown
   have hfe:[vals.take (k*3),vals.drop ((k+1)*3)].flatten=vals.take (k*3)++vals.drop ((k+1)*3):=by simp
   rw[hfe]at hown
   obtain⟨o',hs,hSn⟩:=FU (k:=k) HM.out hi HH.out YL.out h3 Pf.out uw.out HLR.out HB3.out hown nA.out.size
   rw[hlen]at hs hSn
   exact⟨0,_,o',rfl, .inr ⟨k,x,Sc.out.1,Sc.out.2.1,Sc.out.2.2, .inr ⟨HBE.out.symm,rfl,rfl⟩⟩,hs,hSn⟩
end
def H_ (x:kQ):List (List UInt8):=
 if x.kind=7∨x.kind=10 then[x.path,x.aA]else
 if x.kind=1∨x.kind=2∨x.kind=3∨x.kind=8∨x.kind=9∨x.kind=11∨x.kind=12∨x.kind=13 then[x.path]else[]
def cB:List (List UInt8)→List (List Nm)×Int
 |[]=>([],0)
 |a::r=>if (av a).2≠0 then([],(av a).2)else if (cB r).2≠0 then([],(cB r).2)else((av a).1::(cB r).1,0)
def bL (x:kQ):List (List Nm)×Int:=if 1≤x.kind∧x.kind≤17 then cB (H_ x)else([],30)
def f_ (S:nQ) (id now:Int):Int×nQ:=match S.l.findIdx? (fun x=>decide (x.id=id))with
 |none=>(29,S)
 |some k=>match S.l[k]? with
  |none=>(29,S)
  |some x=>if FT x.t now=true then(28,S)else(0,J9 S k)
def oV (now tick:Int):Int:=if tick≤1099511627776 then(if now≤tick then tick else now)else now
def Bt (q:Int×eF):rO×eF:=(bW q.1,q.2)
def eF.tr (M:eF) (T:aK):eF:={M with t:=T}
def eF.sn (M:eF) (S:nQ):eF:={M with s:=S}
def oW (M:eF) (x:kQ) (p q:List Nm):rO×eF:=
 if x.kind=1 then iM M p else
 if x.kind=2 then(bW (cZ M.t p 2).1.2,M.tr (cZ M.t p 2).2)else
 if x.kind=3 then iC M p x.snap else
 if x.kind=4 then(qP M x,M)else
 if x.kind=5 then iR M x else
 if x.kind=6 then Bt (iT M x)else
 if x.kind=7 then(bW (gy M.t p q).1,M.tr (gy M.t p q).2)else
 if x.kind=8 then Bt (gY M p)else
 if x.kind=9 then(bW (eT M.t p).1,M.tr (eT M.t p).2)else
 if x.kind=10 then(bW (cu M.t p q).1,M.tr (cu M.t p q).2)else
 if x.kind=11∨x.kind=12 then(og M x p,M)else
 if x.kind=13 then Bt (kG M p x.au)else
 if x.kind=14 then(⟨(iw M.s M.t).1.2,(iw M.s M.t).1.1,[],[],none⟩,M.sn (iw M.s M.t).2)else
 if x.kind=15 then(bW (f_ M.s x.snap M.now).1,M.sn (f_ M.s x.snap M.now).2)else
 if x.kind=16 then(bW 0,{M with now:=oV M.now x.au})else(bW 0,M)
def bM (M:eF) (x:kQ):rO×eF:=
 if (bL x).2≠0 then(bW (bL x).2,M)else oW M x ((bL x).1.getD 0 []) ((bL x).1.getD 1 [])
theorem Br.eq {S S':nQ} {id now er:Int} (h:Br S id now er S'):f_ S id now=(er,S'):=by
 unfold f_
 rcases h with⟨rfl,rfl,hno⟩|⟨k,x,hx,hid,hno,h⟩
 ·have:S'.l.findIdx? (fun x=>decide (x.id=id))=none:=by
   rw[List.findIdx?_eq_none_iff]
   intro x hx
   simpa using hno x hx
  rw[this]
 ·have:S.l.findIdx? (fun x=>decide (x.id=id))=some k:=by
   obtain⟨hk,e⟩:=List.getElem?_eq_some_iff.1 hx
   rw[List.findIdx?_eq_some_iff_getElem]
   refine⟨hk,by rw[e];simpa using hid,fun j hj=> ?_⟩
   have hm:S.l[j]'(by omega)∈S.l.take k:=by
    rw[List.mem_take_iff_getElem]
    exact⟨j,by omega,rfl⟩
   simpa using hno _ hm
  rw[this]
  dsimp only
  rw[hx]
  dsimp only
  rcases h with⟨h1,rfl,rfl⟩|⟨h1,rfl,rfl⟩
  ·rw[if_pos h1]
  ·rw[if_neg (by rw[h1];simp)]
def WR (f:EC):Prop:=0≤f.id∧f.id≤65535∧f.b.length≤4096
structure zy (S:nQ):Prop where
 few:S.l.length≤8
 last:S.last.length≤64
 each:∀x∈S.l,fC x.t
structure eU (c:Int) (M:eF):Prop where
 t:fC M.t
 s:zy M.s
 next:0≤M.s.next∧M.s.next≤c
 now:0≤M.now∧M.now≤1099511627776
 fd:∀n f,M.fds n=some f→WR f
theorem eU.mono {c d:Int} {M:eF} (h:eU c M) (hcd:c≤d):eU d M:=⟨h.t,h.s,⟨h.next.1,by have:=h.next.2;omega⟩,h.now,h.fd⟩
theorem eU.new:eU 1 xW:=⟨fC.new,⟨by decide,by decide,fun x hx=>by cases hx⟩,⟨by decide,by decide⟩,⟨by decide,by decide⟩,fun n f h=>by cases h⟩
theorem eU.tr {c:Int} {M:eF} (h:eU c M) {T:aK} (hT:fC T):eU c (M.tr T):=⟨hT,h.s,h.next,h.now,h.fd⟩
theorem eU.put {c:Int} {M:eF} (h:eU c M) (n:Nat) (f:Option EC) (hf:∀g,f=some g→WR g):eU c (M.put n f):=
 ⟨h.t,h.s,h.next,h.now,fun m g hg=>by
  have hg:(if m=n then f else M.fds m)=some g:=hg
  by_cases hm:m=n
  ·rw[if_pos hm]at hg;exact hf g hg
  ·rw[if_neg hm]at hg;exact h.fd m g hg⟩
theorem Ia (bs:List UInt8):(qO bs).length≤64:=by rw[xZ];omega
theorem zy.take {S:nQ} (h:zy S) {T:aK} (hT:fC T):zy (iw S T).2:=by
 unfold iw
 by_cases h8:8≤S.l.length
 ·rw[if_pos h8];exact h
 ·rw[if_neg h8]
  refine⟨by simp;omega,Ia _,fun x hx=> ?_⟩
  rcases List.mem_append.1 hx with hx|hx
  ·exact h.each x hx
  ·rw[List.mem_singleton.1 hx];exact hT.bS
theorem FX (S:nQ) (T:aK):(iw S T).2.next=S.next∨(iw S T).2.next=S.next+1:=by
 unfold iw
 split
 ·exact .inl rfl
 ·exact .inr rfl
theorem zy.cut {S:nQ} (h:zy S) (k:Nat):zy (J9 S k):=by
 refine⟨?_,h.last,fun x hx=> ?_⟩
 ·have:=h.few
  show(S.l.take k++S.l.drop (k+1)).length≤8
  rw[List.length_append,List.length_take,List.length_drop];omega
 ·rcases List.mem_append.1 (show x∈S.l.take k++S.l.drop (k+1)from hx)with hx|hx
  ·exact h.each x (List.mem_of_mem_take hx)
  ·exact h.each x (List.mem_of_mem_drop hx)
theorem sw (S:nQ) (id now:Int):(f_ S id now).2=S∨∃k,(f_ S id now).2=J9 S k:=by
 unfold f_
 split
 ·exact .inl rfl
 ·split
  ·exact .inl rfl
  ·split
   ·exact .inl rfl
   ·exact .inr ⟨_,rfl⟩
theorem zy.forget {S:nQ} (h:zy S) (id now:Int):zy (f_ S id now).2∧(f_ S id now).2.next=S.next:=by
 rcases sw S id now with h1|⟨k,h1⟩
 ·rw[h1];exact⟨h,rfl⟩
 ·rw[h1];exact⟨h.cut k,rfl⟩
theorem Ns {now tick:Int} (h:0≤now∧now≤1099511627776):0≤oV now tick∧oV now tick≤1099511627776:=by
 unfold oV
 split
 ·split
  ·omega
  ·omega
 ·omega
theorem FY {T:aK} (hT:dI T) (ls:List Nm) (kind:Int):0≤(cZ T ls kind).1.1∧(cZ T ls kind).1.1≤65535:=by
 unfold cZ
 split
 ·obtain⟨f,h1,h2,h3,_⟩:=hT.free
  have:=hT.len
  dsimp only
  rw[h1];omega
 ·simp
theorem eU.Bu {c:Int} {M:eF} (h:eU c M) {id:Int} {T:aK} (hT:jq M id=some T):fC T:=by
 unfold jq at hT
 split at hT
 ·cases hT;exact h.t
 ·cases hf:Aj M.s id with
  |none=>rw[hf]at hT;cases hT
  |some y=>
   rw[hf]at hT
   cases hT
   exact h.s.each y (List.mem_of_find?_eq_some hf)
theorem QI {T:aK} (hT:dI T) (id a n:Int):(nJ T id a n).length≤4096:=by
 unfold nJ
 split
 ·simp
 ·rename_i x hx
  split
  ·simp
  ·have:=(hT.each id x hx).size
   unfold nI
   split
   ·simp
   ·rw[List.length_take,List.length_drop];omega
theorem eU.create {c:Int} {M:eF} (h:eU c M) (ls:List Nm):eU c (iM M ls).2:=by
 unfold iM
 split
 ·exact h
 ·split
  ·exact h.tr (h.t.cZ ls 1)
  ·refine(h.tr (h.t.cZ ls 1)).put _ _ fun g hg=> ?_
   cases hg
   have:=FY h.t.1 ls 1
   exact⟨this.1,this.2,by simp⟩
theorem eU.open {c:Int} {M:eF} (h:eU c M) (ls:List Nm) (id:Int):eU c (iC M ls id).2:=by
 unfold iC
 split
 ·exact h
 ·rename_i T hT
  split
  ·exact h
  ·unfold DL
   split
   ·exact h
   ·split
    ·exact h
    ·split
     ·exact h
     ·split
      ·exact h
      ·refine h.put _ _ fun g hg=> ?_
       cases hg
       exact⟨by simp,by simp,QI (h.Bu hT).1 _ _ _⟩
theorem eU.write {c:Int} {M:eF} (h:eU c M) (x:kQ):eU c (iR M x).2:=by
 unfold iR
 split
 ·exact h
 ·split
  ·exact h
  ·exact h.tr (h.t.dF _ _)
theorem eU.close {c:Int} {M:eF} (h:eU c M) (x:kQ) (hx:jL x):eU c (iT M x).2:=by
 unfold iT
 split
 ·split
  ·exact h.tr (h.t.fE _ _ hx.wt.1)
  ·exact(h.tr (h.t.fE _ _ hx.wt.1)).put _ _ fun g hg=>by cases hg
 ·split
  ·exact h
  ·exact h.put _ _ fun g hg=>by cases hg
theorem eU.unlink {c:Int} {M:eF} (h:eU c M) (ls:List Nm):eU c (gY M ls).2:=by
 unfold gY
 split
 ·exact h
 ·split
  ·exact h
  ·exact h.tr (h.t.dP ls)
theorem eU.keep {c:Int} {M:eF} (h:eU c M) (ls:List Nm) (au:Int) (ht:0≤au):eU c (kG M ls au).2:=by
 unfold kG
 split
 ·exact h
 ·split
  ·exact h
  ·exact h.tr (h.t.gU _ _ ht)
theorem eU.do_ {c:Int} {M:eF} (h:eU c M) (x:kQ) (hx:jL x):eU (c+1) (bM M x).2:=by
 have h':=h.mono (show c≤c+1 by omega)
 unfold bM
 by_cases h0:(bL x).2≠0
 ·rw[if_pos h0];exact h'
 ·rw[if_neg h0]
  unfold oW
  by_cases h1:x.kind=1
  ·rw[if_pos h1];exact h'.create _
  rw[if_neg h1]
  by_cases h2:x.kind=2
  ·rw[if_pos h2];exact h'.tr (h.t.cZ _ _)
  rw[if_neg h2]
  by_cases h3:x.kind=3
  ·rw[if_pos h3];exact h'.open _ _
  rw[if_neg h3]
  by_cases h4:x.kind=4
  ·rw[if_pos h4];exact h'
  rw[if_neg h4]
  by_cases h5:x.kind=5
  ·rw[if_pos h5];exact h'.write _
  rw[if_neg h5]
  by_cases h6:x.kind=6
  ·rw[if_pos h6];exact h'.close _ hx
  rw[if_neg h6]
  by_cases h7:x.kind=7
  ·rw[if_pos h7];exact h'.tr (h.t.gy _ _)
  rw[if_neg h7]
  by_cases h8:x.kind=8
  ·rw[if_pos h8];exact h'.unlink _
  rw[if_neg h8]
  by_cases h9:x.kind=9
  ·rw[if_pos h9];exact h'.tr (h.t.eT _)
  rw[if_neg h9]
  by_cases h10:x.kind=10
  ·rw[if_pos h10];exact h'.tr (h.t.cu _ _)
  rw[if_neg h10]
  by_cases h11:x.kind=11∨x.kind=12
  ·rw[if_pos h11];exact h'
  rw[if_neg h11]
  by_cases WS:x.kind=13
  ·rw[if_pos WS];exact h'.keep _ _ hx.wt.1
  rw[if_neg WS]
  by_cases Vo:x.kind=14
  ·rw[if_pos Vo]
   refine⟨h.t,h.s.take h.t,?_,h.now,h.fd⟩
   have:=h.next
   rcases FX M.s M.t with e|e
   ·show 0≤(iw M.s M.t).2.next∧(iw M.s M.t).2.next≤c+1
    omega
   ·show 0≤(iw M.s M.t).2.next∧(iw M.s M.t).2.next≤c+1
    omega
  rw[if_neg Vo]
  by_cases WT:x.kind=15
  ·rw[if_pos WT]
   obtain⟨k1,k2⟩:=h.s.forget x.snap M.now
   refine⟨h.t,k1,?_,h.now,h.fd⟩
   have:=h'.next
   show 0≤(f_ M.s x.snap M.now).2.next∧(f_ M.s x.snap M.now).2.next≤c+1
   rw[k2];exact this
  rw[if_neg WT]
  by_cases h16:x.kind=16
  ·rw[if_pos h16];exact⟨h.t,h.s,h'.next,Ns h.now,h.fd⟩
  rw[if_neg h16]
  exact h'
def kH (T:aK) (id:Int):Nat→Int→List Nm→List (List Nm)
 |0,a,p=>if a=id then[p]else[]
 |n+1,a,p=>(if a=id then[p]else[])++(aM T a).flatMap fun e=>kH T id n e.2 (p++[e.1])
theorem pW {T:aK} {id:Int}:∀(n:Nat) (a:Int) (p q:List Nm),q∈kH T id n a p→∃s,q=p++s
 |0,a,p,q,h=>by
  unfold kH at h
  split at h
  ·simp only[List.mem_singleton]at h
   exact⟨[],by simp[h]⟩
  ·cases h
 |n+1,a,p,q,h=>by
  unfold kH at h
  rcases List.mem_append.1 h with h|h
  ·split at h
   ·simp only[List.mem_singleton]at h
    exact⟨[],by simp[h]⟩
   ·cases h
  ·obtain⟨e,_,he⟩:=List.mem_flatMap.1 h
   obtain⟨s,hs⟩:=pW n e.2 _ q he
   exact⟨e.1::s,by rw[hs];simp⟩
theorem vB {T:aK} (hT:dI T) {id:Int}:∀(n:Nat) (a:Int) (p q:List Nm),(ah a T).isSome=true→xP T n a→(q∈kH T id n a p↔∃s,q=p++s∧aD T a s=(id,0))
 |0,a,p,q,ha,hs=>by
  unfold kH
  constructor
  ·intro h
   split at h
   ·rename_i he
    simp only[List.mem_singleton]at h
    exact⟨[],by simp[h],by simp[aD,he]⟩
   ·cases h
  ·rintro ⟨s,rfl,hl⟩
   cases s with
   |nil=>
    have:a=id:=congrArg Prod.fst hl
    rw[if_pos this]
    simp
   |cons m r=>
    obtain⟨x,k,hx,_,hn,_⟩:=mH hl
    have h1:aM T a=[]:=hs
    rw[fq hx]at h1
    rw[h1]at hn
    cases hn
 |n+1,a,p,q,ha,hs=>by
  unfold kH
  rw[List.mem_append,List.mem_flatMap]
  constructor
  ·rintro (h|⟨e,he,h⟩)
   ·split at h
    ·rename_i he
     simp only[List.mem_singleton]at h
     exact⟨[],by simp[h],by simp[aD,he]⟩
    ·cases h
   ·obtain⟨x,hx,hm⟩:=mV he
    obtain⟨s,h1,h2⟩:=(vB hT n e.2 _ q (hT.leads a x hx e hm).1 (hs e he)).1 h
    refine⟨e.1::s,by rw[h1];simp,?_⟩
    unfold aD
    rw[hx]
    simp only
    rw[if_pos (kX hT hx hm),aY uD (hT.each a x hx).sorted hm]
    exact h2
  ·rintro ⟨s,rfl,hl⟩
   cases s with
   |nil=>
    have:a=id:=congrArg Prod.fst hl
    left
    rw[if_pos this]
    simp
   |cons m r=>
    obtain⟨x,k,hx,_,hn,hr⟩:=mH hl
    have he:(m,k)∈aM T a:=by rw[fq hx];exact dB hn
    exact .inr ⟨(m,k),he,(vB hT n k _ _ (hT.leads a x hx _ (dB hn)).1 (hs _ he)).2 ⟨r,by simp,hr⟩⟩
theorem Bv {T:aK} (hT:dI T) (a:Int):(aM T a).Pairwise fun e e'=>e.1≠e'.1:=by
 unfold aM
 cases hx:ah a T with
 |none=>exact List.Pairwise.nil
 |some x=>exact(hT.each a x hx).sorted.apart uD
theorem vV {T:aK} (hT:dI T) {id:Int}:∀(n:Nat) (a:Int) (p:List Nm),(kH T id n a p).Nodup
 |0,a,p=>by
  unfold kH
  split<;>simp
 |n+1,a,p=>by
  unfold kH
  rw[List.nodup_append]
  refine⟨by split<;>simp,?_,fun q hq q' hq'=> ?_⟩
  ·unfold List.Nodup
   rw[List.pairwise_flatMap]
   refine⟨fun e _=>vV hT n e.2 _,(Bv hT a).imp fun{e e'} hne q hq q' hq' he=> ?_⟩
   obtain⟨s,h1⟩:=pW n e.2 _ q hq
   obtain⟨s',h2⟩:=pW n e'.2 _ q' hq'
   rw[h1,h2,List.append_assoc,List.append_assoc]at he
   have:=List.append_cancel_left he
   simp only[List.singleton_append,List.cons.injEq]at this
   exact hne this.1
  ·split at hq
   ·simp only[List.mem_singleton]at hq
    subst hq
    obtain⟨e,_,he⟩:=List.mem_flatMap.1 hq'
    obtain⟨s,h2⟩:=pW n e.2 _ q' he
    intro heq
    have:=congrArg List.length (heq.trans h2)
    simp at this
   ·cases hq
theorem Aq {T:aK} {dep:Int→Nat} (hT:dI T) (hd:eP T dep):∀(n:Nat) (d:Int),dep d≤n→bB T d=2→∃q,aD T 0 q=(d,0)
 |n,d,hn,hk=>by
  by_cases h0:d=0
  ·exact⟨[],by rw[h0];rfl⟩
  ·obtain⟨x,hx,hxk⟩:=gG hk
   have hc:=hT.counts d x hx h0
   rw[((hT.each d x hx).dir hxk).1]at hc
   have hpos:0<fK T d:=by omega
   have:∃q∈T,0<cn d q.2:=by
    unfold fK at hpos
    cases hall:T.all (fun q=>cn d q.2==0)with
    |false=>
     rw[List.all_eq_false]at hall
     obtain⟨q,hq,h1⟩:=hall
     exact⟨q,hq,by simp at h1;omega⟩
    |true=>
     rw[List.all_eq_true]at hall
     have hz:(T.map fun q=>cn d q.2).sum=0:=by
      have:∀l:aK,(∀q∈l,cn d q.2=0)→(l.map fun q=>cn d q.2).sum=0:=by
       intro l
       induction l with
       |nil=>intro _;rfl
       |cons y r ih=>
        intro hh
        rw[List.map_cons,List.sum_cons,hh y (by simp),ih fun q hq=>hh q (by simp[hq])]
      exact this T fun q hq=>by simpa using hall q hq
     omega
   obtain⟨q,hq,hcq⟩:=this
   unfold cn at hcq
   rw[List.countP_pos_iff]at hcq
   obtain⟨e,he,hed⟩:=hcq
   simp only[decide_eq_true_eq]at hed
   have Vt:=aY dQ hT.sorted hq
   have hup:=(hd.up q.1 q.2 Vt e he).2 (by rw[hed];exact hk)
   rw[hed]at hup
   match n,hn with
   |0,hn=>omega
   |n+1,hn=>
    obtain⟨p,hp⟩:=Aq hT hd n q.1 (by omega) ((bR Vt).trans (kX hT Vt he))
    refine⟨p++[e.1],?_⟩
    rw[gW,hp,if_pos rfl]
    unfold aD
    rw[Vt]
    simp only
    rw[if_pos (kX hT Vt he),aY uD (hT.each _ _ Vt).sorted he]
    simp only
    rw[hed]
    rfl
open Classical in
noncomputable def Vu (T:aK) (d:Int):List Nm:=if h:∃q,aD T 0 q=(d,0)then h.choose else[]
theorem Nt {T:aK} {d:Int} (h:∃q,aD T 0 q=(d,0)):aD T 0 (Vu T d)=(d,0):=by
 unfold Vu
 rw[dif_pos h]
 exact h.choose_spec
noncomputable def Ib (T:aK) (id:Int):List (List Nm):=T.flatMap fun d=>(d.2.names.filter fun e=>decide (e.2=id)).map fun e=>Vu T d.1++[e.1]
theorem Kc (T:aK) (id:Int):(Ib T id).length=fK T id:=by
 unfold Ib fK
 rw[List.length_flatMap]
 congr 1
 apply List.map_congr_left
 intro q _
 rw[List.length_map,cn,List.countP_eq_length_filter]
theorem yA {α:Type} [DecidableEq α]:∀{l m:List α},l.Nodup→m.Nodup→(∀a,a∈l↔a∈m)→l.Perm m
 |[],m,_,_,h=>by
  have:m=[]:=List.eq_nil_iff_forall_not_mem.2 fun a ha=>by have:=(h a).2 ha;cases this
  rw[this]
 |x::r,m,hl,hm,h=>by
  have hx:x∈m:=(h x).1 (by simp)
  obtain⟨h1,h2⟩:=List.nodup_cons.1 hl
  have hp:=List.perm_cons_erase hx
  refine List.Perm.trans (List.Perm.cons x (yA h2 (hm.erase x) fun a=> ?_)) hp.symm
  rw[hm.mem_erase_iff]
  constructor
  ·intro ha
   exact⟨fun e=>h1 (e▸ha),(h a).1 (by simp[ha])⟩
  ·rintro ⟨hne,ha⟩
   rcases List.mem_cons.1 ((h a).2 ha)with h3|h3
   ·exact absurd h3 hne
   ·exact h3
theorem DX {T:aK} (hO:fC T) {id:Int} (h0:id≠0):(kH T id 8 0 []).length=fK T id:=by
 obtain⟨hT,dep,hd⟩:=hO
 have hS:xP T 8 0:=hd.RO hT 0
 have Bw:∀d x,ah d T=some x→∀e∈x.names,aD T 0 (Vu T d)=(d,0):=fun d x hx e he=>Nt (Aq hT hd (dep d) d (Nat.le_refl _) ((bR hx).trans (kX hT hx he)))
 rw[←Kc]
 refine(yA (vV hT 8 0 []) ?_ fun q=> ?_).length_eq
 ·unfold Ib List.Nodup
  rw[List.pairwise_flatMap]
  refine⟨fun d RP=> ?_,?_⟩
  ·rw[List.pairwise_map]
   have hs:=(hT.each _ _ (aY dQ hT.sorted RP)).sorted.apart uD
   refine(List.Pairwise.filter _ hs).imp fun{e e'} hne he=>hne ?_
   have:=List.append_cancel_left he
   simpa using this
  ·refine(hT.sorted.apart dQ).imp_of_mem fun{d d'} RP hdm' hne q hq q' hq' he=> ?_
   obtain⟨e,he1,rfl⟩:=List.mem_map.1 hq
   obtain⟨e',he2,rfl⟩:=List.mem_map.1 hq'
   have hl:=congrArg List.dropLast he
   rw[List.dropLast_concat,List.dropLast_concat]at hl
   have h1:=Bw d.1 d.2 (aY dQ hT.sorted RP) e (List.mem_filter.1 he1).1
   have h2:=Bw d'.1 d'.2 (aY dQ hT.sorted hdm') e' (List.mem_filter.1 he2).1
   rw[hl,h2]at h1
   exact hne (congrArg Prod.fst h1).symm
 ·rw[vB hT 8 0 [] q (jT hT) hS]
  unfold Ib
  rw[List.mem_flatMap]
  constructor
  ·rintro ⟨s,hqs,hl⟩
   rw[List.nil_append]at hqs
   rw[←hqs]at hl
   clear hqs
   have hs:q≠[]:=fun e=>by
    rw[e]at hl
    exact h0 (congrArg Prod.fst hl).symm
   obtain⟨d,x,n,-,hl1,hx,hxk,hn,_,e1⟩:=dL hl hs
   have hmem:=dB hn
   have h2:=tJ hT q.dropLast.length q.dropLast (Vu T d) d (Nat.le_refl _) hl1 (Bw d x hx _ hmem) ((bR hx).trans hxk)
   refine⟨(d,x),dB hx,List.mem_map.2 ⟨(n,id),List.mem_filter.2 ⟨hmem,by simp⟩,?_⟩⟩
   rw[e1,h2]
  ·rintro ⟨d,RP,hq⟩
   obtain⟨e,he,rfl⟩:=List.mem_map.1 hq
   obtain⟨hen,Vf⟩:=List.mem_filter.1 he
   simp only[decide_eq_true_eq]at Vf
   have hx:=aY dQ hT.sorted RP
   refine⟨Vu T d.1++[e.1],rfl,?_⟩
   rw[gW,Bw d.1 d.2 hx e hen,if_pos rfl]
   unfold aD
   rw[hx]
   simp only
   rw[if_pos (kX hT hx hen),aY uD (hT.each _ _ hx).sorted hen]
   simp only
   rw[Vf]
   rfl
def doneN (left:Nm→Bool) (l:List (Nm×Int)):List (Nm×Int):=l.filter fun e=> !left e.1
theorem sD {left:Nm→Bool} {k:Nm} {j:Int}:∀{l:List (Nm×Int)},l.Pairwise (fun e e'=>e.1≠e'.1)→(k,j)∈l→left k=true→(doneN (fun z=>left z&& !decide (z=k)) l).Perm (doneN left l++[(k,j)])
 |[],_,h,_=>by cases h
 |y::r,hp,h,hl=>by
  obtain⟨h1,h2⟩:=List.pairwise_cons.1 hp
  unfold doneN
  rw[List.filter_cons,List.filter_cons]
  rcases List.mem_cons.1 h with h3|h3
  ·subst h3
   have hr:r.filter (fun e=> !(left e.1&& !decide (e.1=k)))=r.filter fun e=> !left e.1:=by
    apply List.filter_congr
    intro e he
    have hne:e.1≠k:=fun hh=>h1 e he hh.symm
    simp[hne]
   rw[hr]
   simp only[decide_true,Bool.not_true,Bool.and_false,Bool.not_false,if_true,hl]
   rw[if_neg (by decide)]
   exact(List.perm_append_singleton _ _).symm
  ·have hne:y.1≠k:=h1 (k,j) h3
   have ih:=sD h2 h3 hl
   unfold doneN at ih
   have e1:(!(left y.1&& !decide (y.1=k)))= !left y.1:=by simp[hne]
   rw[e1]
   cases left y.1 with
   |true=>simpa using ih
   |false=>simpa using ih
theorem FZ {left:Nm→Bool} {l:List (Nm×Int)} (h:∀e∈l,left e.1=true):doneN left l=[]:=by
 unfold doneN
 rw[List.filter_eq_nil_iff]
 intro e he
 simp[h e he]
theorem Ke {left:Nm→Bool} {l:List (Nm×Int)} (h:∀k,left k=false):doneN left l=l:=by
 unfold doneN
 rw[List.filter_eq_self]
 intro e _
 simp[h e.1]
def Ic (S:Nat→Prop) (w:World) (u:Value) (q:List Nm):Prop:=∃a c,u= .slice a q.length c∧q.length≤c∧aO S w a q.length (q.map strOf)
def mZ (S:Nat→Prop) (w:World) (vals:List Value) (l:List (List Nm)):Prop:=vals.length=l.length∧∀(i:Nat) (q:List Nm),l[i]? =some q→∃u,vals[i]? =some u∧Ic S w u q
theorem Ic.move {S S':Nat→Prop} {w w':World} {u:Value} {q:List Nm} (h:Ic S w u q) (hs:w.heap.size≤w'.heap.size) (hk:∀b,S b→b<w.heap.size→S' b∧w'.heap[b]? =w.heap[b]?):Ic S' w' u q:=by
 obtain⟨a,c,h1,h2,h3⟩:=h
 exact⟨a,c,h1,h2,h3.row.move hs hk,h3.short⟩
theorem mZ.move {S S':Nat→Prop} {w w':World} {vals:List Value} {l:List (List Nm)} (h:mZ S w vals l) (hs:w.heap.size≤w'.heap.size) (hk:∀b,S b→b<w.heap.size→S' b∧w'.heap[b]? =w.heap[b]?):mZ S' w' vals l:=
 ⟨h.1,fun i q hq=>by
  obtain⟨u,h1,h2⟩:=h.2 i q hq
  exact⟨u,h1,h2.move hs hk⟩⟩
theorem mZ.append {S:Nat→Prop} {w:World} {v1 v2:List Value} {l1 l2:List (List Nm)} (h:mZ S w v1 l1) (k:mZ S w v2 l2):mZ S w (v1++v2) (l1++l2):=by
 refine⟨by rw[List.length_append,List.length_append,h.1,k.1],fun i q hq=> ?_⟩
 by_cases hi:i<l1.length
 ·rw[List.getElem?_append_left hi]at hq
  rw[List.getElem?_append_left (by rw[h.1];exact hi)]
  exact h.2 i q hq
 ·rw[List.getElem?_append_right (by omega)]at hq
  rw[List.getElem?_append_right (by rw[h.1];omega),h.1]
  exact k.2 _ q hq
def bmk (l:List UInt8):ByteArray:=⟨l.toArray⟩
theorem Nu (l:List UInt8):(bmk l).size=l.length:=by simp[bmk,ByteArray.size]
def Small (q:List Nm):Prop:=q.length≤64∧∀n∈q,n.length≤16
end Go.Proofs.YtmabllemjkcobaaGreatDoor
