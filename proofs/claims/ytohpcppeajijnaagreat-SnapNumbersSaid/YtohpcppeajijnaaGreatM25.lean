/- package snap: All. package snap: Forget. permafrost/permafrostbook.Same[int]: are two slices the same? permafrostlaw13: begin, known. permafrostlaw13.known. The reference's tree in memory; at, Node, entry. -/
import Derived.Test.YtohpcppeajijnaaGreatM20
import Derived.Test.YtohpcppeajijnaaGreatM24
import Derived.Test.YtohpcppeajijnaaGreatM23
import Derived.Test.YtohpcppeajijnaaGreatM01
import Derived.BigQuiet
import Derived.Deep.QuietTactic
import Derived.Test.YtohpcppeajijnaaGreatM17
namespace Go.Proofs.YtohpcppeajijnaaGreat
open Go.ChangeShapes Go.WideShapes Go.ChangeAt Go.RowKit
set_option linter.unusedVariables false
set_option linter.unusedSimpArgs false
def allM (S:iC):List Int:=S.l.map (·.id)
theorem FN {l:List dQ} {k:Nat} {x:dQ} (h:l[k]? =some x):(l.take (k+1)).map dQ.id=(l.take k).map dQ.id++[x.id]:=by
 obtain⟨hk,e⟩:=List.getElem?_eq_some_iff.1 h
 rw[List.take_succ_eq_append_getElem hk,e,List.map_append];rfl
section
variable {w:World} {o:Mark} {i s:Nat} {S:iC}
set_option maxRecDepth 100000 in
set_option maxHeartbeats 8000000 in
theorem zy (h:dX o i w s S) (pE:S.l.length≤1000):Calls Tryz.prog 53 #[ptr s] w (qX w (allM S)):=by
 obtain⟨ti,hi,hz0,hz1,hz2⟩:=info_parts zx
 obtain⟨v,la,lc,vals,h1,h2,h3,h4,h5,h6,h7,h8⟩:=h.at_
 obtain⟨a,c,rfl,hcap⟩:=bQ h4
 obtain⟨-,-,hrow⟩:=ak.jO h4 (by unfold maxLen;omega)
 have c0:w.cell? ⟨s,0,none⟩=some (.slice a S.l.length c):=by simp[World.cell?,h1]
 unfold allM
 obtain⟨l,hl⟩:∃l,l=S.l:=⟨_,rfl⟩
 rw[←hl]at c0 hrow hcap pE h6⊢
 obtain⟨n,hnl⟩:∃n,n=l.length:=⟨_,rfl⟩
 rw[←hnl]at c0 hrow hcap pE
 have HR:=Lib.hid hrow
 have uR:=Lib.hid h6
 have LJ:=Lib.hid hnl
 clear h h1 h2 h4 h5 h6 h7 h8 hrow hnl hl
 go_enter Tryz.func53,Tryz.ntmps53
 go_wp2_with fail
 go_loopw [3,11] (fun v i wr=>∃k:Nat,k≤n∧i= .int .i64 k∧wr.ownsRow w.heap.size 3 1 v k (((l.take k).map dQ.id).map (Value.int .i64))∧Below w.heap.size w wr) (fun _ i _=>n-(intOf i).toNat)
 case atStart=>exact⟨0,by omega,rfl,⟨rfl, .inl ⟨rfl,rfl⟩⟩,Below.refl _ _⟩
 case round=>
  obtain⟨k,hk,rfl,hO,hb⟩:=hrel
  have hbs:=hb.size
  by_cases hlt:k<n
  ·obtain⟨g,off,rfl,_,hgw,hcell⟩:=HR.out.at_ (by omega)
   obtain⟨x,hx⟩:∃x,l[k]? =some x:=⟨l[k]'(by have:=LJ.out;omega),List.getElem?_eq_getElem _⟩
   obtain⟨ha,hcp,q,e0,e1,e2,_⟩:=uR.out.at_ hx
   have d0:wr.cell? ⟨g,off+k*3,none⟩=some (.int .i64 x.id):=(hb.cell (p:=⟨g,off+k*3,none⟩) hgw).trans ((hcell (k*3) (by omega)).trans e0)
   have d1:wr.cell? ⟨g,off+k*3+1,none⟩=some (.slice ha x.hash.length hcp):=(hb.cell (p:=⟨g,off+k*3+1,none⟩) hgw).trans ((hcell (k*3+1) (by omega)).trans e1)
   have d2:wr.cell? ⟨g,off+k*3+2,none⟩=some (ptr q):=(hb.cell (p:=⟨g,off+k*3+2,none⟩) hgw).trans ((hcell (k*3+2) (by omega)).trans e2)
   have vN:=Lib.hid (FN hx)
   have HO:=Lib.hid hO
   have xW:=Lib.hid hb
   obtain⟨a5,c5,rfl,XG⟩:=bQ hO
   have hb5:Below wr.heap.size wr ((wr.alloc (.cells #[.int .i64 x.id, .slice ha x.hash.length hcp,ptr q] 152)).alloc (.cells #[.int .i64 x.id] 3)):=(wall wr _).trans ((wall _ _).mono (by simp))
   have LY:=Lib.hid (own_below HO.out hb5)
   have lX:=Lib.hid hb5
   have gZ:=Lib.hid (uN (w:=wr.alloc (.cells #[.int .i64 x.id, .slice ha x.hash.length hcp,ptr q] 152)) (.int .i64 x.id) 3)
   rw[World.size_alloc]at gZ
   have Ep:=hb5.size
   clear hx hcell e0 e1 e2 hO hb hb5
   go_wp2_with (at_builtin;(refine aO (by rfl) _ _ 37 (by rfl) w.heap.size 3 ti (.int .i64 0) 8 Tryz.underlying37 hi hz0 hz1 hz2 rfl _ _ _ (by rfl) LY.out (some ⟨wr.heap.size+1,0,none⟩) 1 1 [.int .i64 x.id] (by rfl) gZ.out (AV [x.id]) (by unfold maxLen;omega) (by omega) (Nat.le_trans hbs Ep) ?_);intro A' c' w6 hown6 vW _ _)
   have M0:=Lib.hid hown6
   have XH:=Lib.hid vW
   clear hown6 vW
   go_roundw
   case rel=>
    refine⟨k+1,by omega,by go_num,?_,?_⟩
    ·rw[vN.out,List.map_append]
     exact M0.out
    ·exact(xW.out.trans (lX.out.mono hbs)).grown XH.out (by omega) (bC LY.out)
   case measure=>simp[intOf];omega
  ·obtain rfl:n=k:=by omega
   rw[List.take_of_length_le (by rw[LJ.out];exact Nat.le_refl _)]at hO
   obtain⟨a2,c2,rfl,hac⟩:=bQ hO
   have HO:=Lib.hid hO
   have xW:=Lib.hid hb
   clear hO hb
   go_wp2
   go_ret
   have:=(ak.ku HO.out).2
   have e1:=LJ.out
   subst e1
   rw[show l.length=(l.map dQ.id).length from(List.length_map _).symm]at this hac⊢
   exact⟨a2,c2,rfl,hac,this.mono (fun b hb=>⟨by omega,hb.2⟩),xW.out⟩
end
def sP (T:aI) (now:Int):Bool:=decide (0<(fu T now).length)
def zA (S:iC) (k:Nat):iC:=⟨S.l.take k++S.l.drop (k+1),S.next,S.last⟩
def iq (S:iC) (id now er:Int) (S':iC):Prop:=
 (er=29∧S'=S∧∀x∈S.l,x.id≠id)∨∃(k:Nat) (x:dQ),S.l[k]? =some x∧x.id=id∧(∀x'∈S.l.take k,x'.id≠id)∧((sP x.t now=true∧er=28∧S'=S)∨(sP x.t now=false∧er=0∧S'=zA S k))
theorem yB {F:Nat→Prop} {w w1:World} {b off n c k s:Nat} {vs:List Value} (h:ak F w (some ⟨b,off,none⟩) (n*s) vs) (hk:k<n) (hb:Below w.heap.size w w1):
  ak F w1 (some ⟨b,off,none⟩) (k*s) (vs.take (k*s))∧ak F w1 (if c=k+1 then some ⟨b,off,none⟩else some ⟨b,off+(k+1)*s,none⟩) ((n-(k+1))*s) (vs.drop ((k+1)*s))∨c<n:=by
 by_cases hcn:c<n
 ·exact .inr hcn
 ·left
  have h1:=h.below hb (Nat.le_refl _)
  have h2:=h1.take (k*s)
  have hks:k*s≤n*s:=Nat.mul_le_mul_right s (by omega)
  rw[Nat.min_eq_right hks]at h2
  have h4:=h1.drop ((k+1)*s)
  rw[←Nat.sub_mul]at h4
  refine⟨h2,?_⟩
  by_cases hce:c=k+1
  ·rw[if_pos hce]
   have hl:=h.length
   have hkn:k+1=n:=by omega
   exact ak.zero _ _ _ (by rw[show n-(k+1)=0 by omega,Nat.zero_mul]) (by rw[hkn];exact List.drop_of_length_le (by omega))
  ·rw[if_neg hce];exact h4
theorem oI.one {o:Mark} {w:World} {vs:List Value} {x:dQ} (h:oI o w vs x):∀u∈vs,u.oneCell'=true:=by
 obtain⟨a,c,q,h1,_⟩:=h
 intro u hu
 rw[h1]at hu
 simp only[List.mem_cons,List.not_mem_nil,or_false]at hu
 rcases hu with rfl|rfl|rfl<;>rfl
theorem bX.one {o:Mark} {w:World}:∀{vs:List Value} {l:List dQ},bX o w vs l→∀u∈vs,u.oneCell'=true
 |_,[],h=>by have h1:_=[]:=h;rw[h1];intro u hu;cases hu
 |_,x::r,⟨v1,v2,h1,h2,h3⟩=>by
  intro u hu
  rw[h1]at hu
  rcases List.mem_append.1 hu with hu|hu
  ·exact h2.one u hu
  ·exact bX.one h3 u hu
theorem FP (w:World) (x y:Value) (t:TypeId):(w.alloc (.cells #[x,y] t)).drew.cell? ⟨w.heap.size,0,none⟩=some x∧(w.alloc (.cells #[x,y] t)).drew.cell? ⟨w.heap.size,1,none⟩=some y∧w.heap.size<(w.alloc (.cells #[x,y] t)).drew.heap.size:=by
 have h:=(MapKept.heap_alloc w (.cells #[x,y] t)).1
 have h2:(w.alloc (.cells #[x,y] t)).drew.heap[w.heap.size]? =some (.cells #[x,y] t (0,0)):=h
 refine⟨?_,?_,?_⟩
 ·unfold World.cell?;simp only[h2];rfl
 ·unfold World.cell?;simp only[h2];rfl
 ·exact(Array.getElem?_eq_some_iff.1 h2).1
section
variable {W w:World} {o:Mark} {i s:Nat} {S:iC}
theorem C9 {w8:World} {v v8:Value} {vals:List Value} {k B lc:Nat} {la:Option Addr} (hM:Marks W o w) (hi:i≠0) (hh:w.heap[s]? =some (.cells #[v, .int .i64 S.next, .slice la S.last.length lc] 150 (0,0)))
  (hos:o s=i) (hsw:s<w.heap.size) (hO:bX o w vals S.l) (hlc:S.last.length≤lc) (hlr:ak (fun b=>o b=0∧b<w.heap.size) w la S.last.length (S.last.map bv)) (hb:Below w.heap.size w w8)
  (hown:w8.ownsRow B 152 3 v8 (S.l.take k++S.l.drop (k+1)).length (vals.take (k*3)++vals.drop ((k+1)*3))) (hB:w.heap.size≤B):
  ∃o',Step o (fun j=>j=i) w o' (w8.setCell ⟨s,0,none⟩ v8)∧dX o' i (w8.setCell ⟨s,0,none⟩ v8) s (zA S k):=by
 obtain⟨o',hs,h1,h2⟩:=jW hM i (fun b=>v8.ownBlock=some b) (w':=w8) (fun b hb'=>⟨by have:=bC hown b hb';omega,jF hown b hb'⟩) hb
 have hi0:¬(fun j=>j=i) 0:=fun e=>hi e.symm
 have Eb:w8.heap[s]? =_:=(hb.block s hsw).trans hh
 have hz:=size_set w8 ⟨s,0,none⟩ v8
 have hst:Step o (fun j=>j=i) w o' (w8.setCell ⟨s,0,none⟩ v8):=by
  refine hs.trans ⟨fun _ _=>rfl,fun b hb' hn=> ?_,(Keeps.fE w8 ⟨s,0,none⟩ v8).mono fun x _ hx=>by
   have hx:x=s:=hx
   rw[hx];exact(hs.old s hsw).trans hos⟩
  have:=(hs.new b (Nat.le_trans hb.size hb') hn).2
  omega
 have hst2:Step o (fun j=>j=i) w o' w8:=hs
 refine⟨o',hst,⟨v8,la,lc,_,aL Eb,(hst.old s hsw).trans hos,by have:=hb.size;omega,?_,fun b hb'=> ?_,bX.append ((hO.take k).step hi0 hst) ((hO.drop (k+1)).step hi0 hst),hlc,?_⟩⟩
 ·exact vS (bY hown fun b hb' _=>aP _ _ _ _ (by have:=bC hown b hb';simp only;omega)) (Nat.zero_le _)
 ·exact⟨h1 b hb',by have:=bC hown b hb';omega,by have:=jF hown b hb';omega⟩
 ·exact hlr.move hst.keep.size fun b hb' _=>⟨⟨(hst.old b hb'.2).trans hb'.1,Nat.lt_of_lt_of_le hb'.2 hst.keep.size⟩,hst.block hb'.2 (by rw[hb'.1];exact hi0)⟩
set_option maxRecDepth 100000 in
set_option maxHeartbeats 8000000 in
theorem vX (hS:dX o i w s S) (hM:Marks W o w) (hi:i≠0) (zY:S.l.length≤8) (id now:Int):
  Calls Tryz.prog 100 #[ptr s, .int .i64 id, .int .u64 now] w fun e w'=>∃er S' o',e= .returned (.int .i64 er)∧iq S id now er S'∧Step o (fun k=>k=i) w o' w'∧dX o' i w' s S':=by
 have HS:=Lib.hid hS
 have HM:=Lib.hid hM
 obtain⟨v,la,lc,vals,h1,h2,h3,h4,h5,h6,h7,h8⟩:=hS.at_
 obtain⟨a,c,rfl,hcap⟩:=bQ h4
 obtain⟨-,-,hrow⟩:=ak.jO h4 (by unfold maxLen;omega)
 have HF:=Lib.hid (vO hS id (by omega))
 have HH:=Lib.hid h1
 have uR:=Lib.hid h6
 have M4:=Lib.hid h8
 have PD:=Lib.hid h7
 have MW:=Lib.hid h2
 have gZ:=Lib.hid hrow
 obtain⟨n,hn⟩:∃n,n=S.l.length:=⟨_,rfl⟩
 have HN:=Lib.hid hn
 rw[←hn]at hcap zY
 clear hS hM h1 h2 h4 h5 h6 h7 h8 hrow hn
 go_enter Tryz.func100,Tryz.ntmps100
 go_wp2_with fail
 (with_reducible refine HF.out.mono ?_)
 rintro e w1 ⟨v,rfl,hf,hb1⟩
 have HB1:=Lib.hid hb1
 clear hb1
 rcases hf with⟨rfl,hno⟩|⟨k,x,rfl,hx,hid,hno⟩
 ·have Em:=Lib.hid hno
  clear hno
  go_wp2_with fail
  go_ret
  exact⟨29,S,o,rfl, .inl ⟨rfl,rfl,Em.out⟩,Step.grow HM.out HB1.out,HS.out.grow HM.out HB1.out⟩
 ·have hkn:k<n:=by rw[HN.out];exact(List.getElem?_eq_some_iff.1 hx).1
  have HRW:=gZ.out
  rw[←HN.out]at HRW
  obtain⟨g,off,rfl,hgw,_,hcell⟩:=HRW.at_ (by omega)
  have HRX:=Lib.hid HRW
  obtain⟨ha,hcp,q,e0,e1,e2,e3,e4,e5,e6⟩:=uR.out.at_ hx
  have d2:w1.cell? ⟨g,off+k*3+2,none⟩=some (ptr q):=(HB1.out.cell (p:=⟨g,off+k*3+2,none⟩) hgw.2).trans ((hcell (k*3+2) (by omega)).trans e2)
  have hbS:=HB1.out.block s h3
  have c0:w1.cell? ⟨s,0,none⟩=some (.slice (some ⟨g,off,none⟩) n c):=by
   have:=hbS.trans HH.out
   rw[HN.out]
   simp[World.cell?,this]
  obtain⟨gg,D,mb,ib,nb,hA,Jo,hD9⟩:=e5.grow HB1.out
  have XJ:=Lib.hid (FM now w1 hA e6)
  have L9:=Lib.hid (And.intro hx (And.intro hid hno))
  have hneg:¬((k:Int)<0):=by omega
  have i0:(0:Int)≤k:=by omega
  have i1:(k:Int)<n:=by omega
  have Ti:(k:Int)≤c:=by omega
  have i2:(k:Int)+1≤n:=by omega
  have i3:(0:Int)≤(k:Int)+1:=by omega
  have i4:(n:Int)≤c:=by omega
  have ew:IntKind.i64.wrap ((k:Int)+1)=(k:Int)+1:=IntWalk.i64_in _ (by omega)
  clear hx hid hno hcell e0 e1 e2 e3 e4 e5 e6 hA Jo hD9 HRW hbS
  obtain⟨bd,hbd⟩:∃bd,bd=decide (0<(fu x.t now).length):=⟨_,rfl⟩
  rw[←hbd]at XJ
  have PI:=Lib.hid hbd
  clear hbd
  cases bd with
  |true=>
   go_wp2_with fail
   (with_reducible refine XJ.out.mono ?_)
   rintro e w2 ⟨rfl,hb2⟩
   have HB2:=Lib.hid hb2
   clear hb2
   go_wp2_with fail
   go_ret
   have hB:=HB1.out.trans (HB2.out.mono HB1.out.size)
   exact⟨28,S,o,rfl, .inr ⟨k,x,L9.out.1,L9.out.2.1,L9.out.2.2, .inl ⟨PI.out.symm,rfl,rfl⟩⟩,Step.grow HM.out hB,HS.out.grow HM.out hB⟩
  |false=>
   go_wp2_with fail
   (with_reducible refine XJ.out.mono ?_)
   rintro e w2 ⟨rfl,hb2⟩
   have HB2:=Lib.hid (HB1.out.trans (hb2.mono HB1.out.size))
   have hs2:=hb2.size
   have hs1:=HB1.out.size
   have HK:Hid (∀w',Below w.heap.size w w'→w'.cell? ⟨s,0,none⟩=some (.slice (some ⟨g,off,none⟩) n c)∧w'.frozen? ⟨s,0,none⟩=false):=fun w' hb=>by
    have:=(hb.block s h3).trans HH.out
    rw[HN.out]
    refine⟨?_,?_⟩<;>simp[World.cell?,World.frozen?,this]
   clear c0 d2 hb2
   go_wp2_with fail
   refine wp_region_noPanic ?_
   refine aH (last:=18) (S:=(fun w'=>w'.cell? ⟨s,0,none⟩=some (.slice (some ⟨g,off,none⟩) n c)∧w'.frozen? ⟨s,0,none⟩=false)) (by kernel_rfl) ?_ (fun hS=> ?_)
   ·exact HK.out _ (HB2.out.trans (Below.refl _ _).drew)
   refine aC 0 (hS:=hS) (h:= ?_)
   refine aC 1 (hS:=hS) (h:= ?_)
   refine aC 2 (hS:=hS) (h:= ?_)
   refine aC 3 (hS:=hS) (h:= ?_)
   refine aC 4 (hS:=hS) (h:= ?_)
   refine aC 5 (hS:=hS) (h:= ?_)
   refine aC 6 (hS:=hS) (h:= ?_)
   refine aC 7 (hS:=hS) (h:= ?_)
   refine aC 8 (hS:=hS) (h:= ?_)
   refine aC 9 (hS:=hS) (h:= ?_)
   refine aC 10 (hS:=hS) (h:= ?_)
   refine aC 11 (hS:=hS) (h:= ?_)
   refine aC 12 (hS:=hS) (h:= ?_)
   refine aC 13 (hS:=hS) (h:= ?_)
   obtain⟨A2,hA2⟩:∃A2:Option Addr,A2=if c=k+1 then some ⟨g,off,none⟩else some ⟨g,off+(k+1)*3,none⟩:=⟨_,rfl⟩
   rw[←hA2]
   have HA2:=Lib.hid hA2
   clear hA2
   refine dh 14 (h:=fun K hK=> ?_)
   go_simp
   have sI:Below w2.heap.size w2 (w2.alloc (.cells #[.slice (some ⟨g,off,none⟩) k c, .slice A2 (n-(k+1)) (c-(k+1))] 148)).drew:=(wall w2 _).trans (Below.refl _ _).drew
   have hBW:Below w.heap.size w (w2.alloc (.cells #[.slice (some ⟨g,off,none⟩) k c, .slice A2 (n-(k+1)) (c-(k+1))] 148)).drew:=HB2.out.trans (sI.mono HB2.out.size)
   have xB:=Lib.hid hBW
   obtain⟨hC0,Ox,JL⟩:=FP w2 (.slice (some ⟨g,off,none⟩) k c) (.slice A2 (n-(k+1)) (c-(k+1))) 148
   have hRR:=(yB (c:=c) HRX.out hkn hBW).resolve_right (by omega)
   rw[←HA2.out]at hRR
   have hv1:=uR.out.one
   have hvl:=uR.out.len
   have hfl:([vals.take (k*3),vals.drop ((k+1)*3)].flatten).length=(k+(n-(k+1)))*3:=by
    rw[←HN.out]at hvl
    simp[hvl];omega
   have Xx:=Lib.hid (AU (w2.heap.size) 2 (k+(n-(k+1))) [vals.take (k*3),vals.drop ((k+1)*3)] _ rfl (by omega) JL hfl (by omega) (fun j hj=>by
    rcases j with _|_|j
    ·exact⟨_,_,_,_,hC0,hRR.1,rfl,fun u hu=>hv1 u (List.mem_of_mem_take hu)⟩
    ·exact⟨_,_,_,_,Ox,hRR.2,rfl,fun u hu=>hv1 u (List.mem_of_mem_drop hu)⟩
    ·omega))
   have xC:=Lib.hid sI
   clear sI hC0 Ox hRR hv1 hvl hfl JL
   refine hK.out _ _ (fun _=>HK.out _ hBW) (fun hS=> ?_)
   replace hS:=hS (by decide)
   clear hK K
   try simp only[Act.put,List.setIfInBounds_toArray,List.set_cons_zero,List.set_cons_succ]
   clear hBW
   refine dh 15 (h:=fun K hK=> ?_)
   go_simp
   (with_reducible refine Xx.out.mono ?_)
   rintro e w3 ⟨v8,rfl,hown,hb3⟩
   have HB3:=Lib.hid (xB.out.trans (hb3.mono xB.out.size))
   have HOWN:=Lib.hid hown
   obtain⟨a8,c8,rfl,-⟩:=bQ hown
   clear hown hb3
   go_wp2_with fail
   refine hK.out _ _ (fun _=>HK.out _ HB3.out) (fun hS=> ?_)
   replace hS:=hS (by decide)
   clear hK K
   try simp only[Act.put,List.setIfInBounds_toArray,List.set_cons_zero,List.set_cons_succ]
   refine aC 16 (hS:=hS) (h:= ?_)
   refine aC 17 (hS:=hS) (h:= ?_)
   refine dh 18 (h:=fun K hK=> ?_)
   go_simp
   refine hK.out _ _ (fun h=>absurd rfl h) (fun hS=> ?_)
   clear hS hK K
   try simp only[Act.put,List.setIfInBounds_toArray,List.set_cons_zero,List.set_cons_succ]
   refine aG (by kernel_rfl) ?_ _
   refine NoPanic.normal ?_
   go_wp2_with fail
   go_ret
   have hlen:(S.l.take k++S.l.drop (k+1)).length=k+(n-(k+1)):=by
    have:=HN.out
    rw[List.length_append,List.length_take,List.length_drop];omega
   have hown:=HOWN.out
   rw[←hlen]at hown
   have hfe:[vals.take (k*3),vals.drop ((k+1)*3)].flatten=vals.take (k*3)++vals.drop ((k+1)*3):=by simp
   rw[hfe]at hown
   obtain⟨o',hs,ZT⟩:=C9 (k:=k) HM.out hi HH.out MW.out h3 uR.out PD.out M4.out HB3.out hown xB.out.size
   rw[hlen]at hs ZT
   exact⟨0,_,o',rfl, .inr ⟨k,x,L9.out.1,L9.out.2.1,L9.out.2.2, .inr ⟨PI.out.symm,rfl,rfl⟩⟩,hs,ZT⟩
end
def Eu (w:World) (r:Bool) (e:Ending) (w':World):Prop:=e= .returned (.bool r)∧∃q,w'=w.drewN q
theorem C_ {xs ys:List Int} {k:Nat} (hk:k<xs.length) (hk':k<ys.length) (h:xs.take k=ys.take k) (he:xs[k]=ys[k]):xs.take (k+1)=ys.take (k+1):=by
 rw[List.take_succ_eq_append_getElem hk,List.take_succ_eq_append_getElem hk',h,he]
set_option maxHeartbeats 1000000 in
theorem FQ {S S':Nat→Prop} (a b:Option Addr) (ca cb:Nat) (xs ys:List Int) (w:World) (ha:ak S w a xs.length (xs.map (Value.int .i64))) (hb:ak S' w b ys.length (ys.map (Value.int .i64))):
  Calls Tryz.prog 52 #[.slice a xs.length ca, .slice b ys.length cb] w (Eu w (decide (xs=ys))):=by
 have ha1:=ha.small
 have hb1:=hb.small
 unfold maxLen at ha1 hb1
 by_cases hl:xs.length=ys.length
 ·have e1:((xs.length:Int) !=(ys.length:Int))=false:=by simp[hl]
  obtain⟨n,hn⟩:∃n,n=xs.length:=⟨_,rfl⟩
  rw[←hn]at hl ha ha1 e1⊢
  rw[←hl]at hb hb1 e1⊢
  have HA:=Lib.hid ha
  have HB:=Lib.hid hb
  have HL:=Lib.hid hl
  have HN:=Lib.hid hn
  have e2:((n:Int) !=(n:Int))=false:=by simp
  clear ha hb hl hn e1 hb1
  go_enter Tryz.func52,Tryz.ntmps52
  go_wp2
  go_loopw [5] (fun i wr=>∃k q:Nat,k≤n∧i= .int .i64 k∧wr=w.drewN q∧Hid (xs.take k=ys.take k)) (fun i _=>n-(intOf i).toNat)
  case atStart=>exact⟨0,0,by omega,rfl,rfl,show _=_ by simp⟩
  case round=>
   obtain⟨k,q,hk,rfl,rfl,hT⟩:=hrel
   by_cases hlt:k<n
   ·obtain⟨b1,o1,rfl,_,_,hc1⟩:=HA.out.at_ (by omega)
    obtain⟨b2,o2,rfl,_,_,hc2⟩:=HB.out.at_ (by omega)
    have hx:k<xs.length:=by rw[←HN.out];exact hlt
    have hy:k<ys.length:=by rw[←HL.out];exact hlt
    have g1:w.cell? ⟨b1,o1+k,none⟩=some ((Value.int .i64) xs[k]):=by rw[hc1 k hlt,List.getElem?_map,List.getElem?_eq_getElem hx];rfl
    have g2:w.cell? ⟨b2,o2+k,none⟩=some ((Value.int .i64) ys[k]):=by rw[hc2 k hlt,List.getElem?_map,List.getElem?_eq_getElem hy];rfl
    have i0:(0:Int)≤(k:Int):=by omega
    have i1:(k:Int)<(n:Int):=by omega
    clear hc1 hc2
    have HX:=fun h=>C_ hx hy hT.out h
    by_cases heq:xs[k]=ys[k]
    ·have LX:=Lib.hid (HX heq)
     have e3:(xs[k] !=ys[k])=false:=by simp[heq]
     clear HX
     generalize xs[k]=x at g1 e3 heq
     generalize ys[k]=y at g2 e3 heq
     have ZU:=Lib.hid heq
     clear heq
     go_wp2
     go_quiet (fail)
     go_wp2
     go_roundw
     case rel=>exact⟨k+1,_,by omega,by go_num,rfl,LX⟩
     case measure=>simp[intOf];omega
    ·have hne:xs≠ys:=fun h=>heq (by subst h;rfl)
     have e3:(xs[k] !=ys[k])=true:=by simp;exact heq
     have fV:=Lib.hid hne
     clear HX hne
     generalize xs[k]=x at g1 e3 heq
     generalize ys[k]=y at g2 e3 heq
     have ZU:=Lib.hid heq
     clear heq
     go_wp2
     go_quiet (fail)
     go_wp2
     go_ret
     exact⟨gQ (by simp[fV.out]),_,World.drewN_drewN _ _ _⟩
   ·obtain rfl:k=n:=by omega
    have he:xs=ys:=by
     have:=hT.out
     rw[List.take_of_length_le (by rw[←HN.out];omega),List.take_of_length_le (by rw[←HL.out];omega)]at this
     exact this
    have HE:=Lib.hid he
    clear he
    go_wp2
    go_ret
    exact⟨gQ (by simp[HE.out]),_,rfl⟩
 ·have e1:((xs.length:Int) !=(ys.length:Int))=true:=by simp;omega
  have hne:xs≠ys:=fun h=>hl (by rw[h])
  have fV:=Lib.hid hne
  clear hne hl ha hb
  go_enter Tryz.func52,Tryz.ntmps52
  go_wp2
  go_ret
  exact⟨gQ (by simp[fV.out]),0,rfl⟩
theorem lF {S:iC} {T:aI} (h:S.l.length<8):∃x S',bW S T=((S.next,0),S')∧S'.l=S.l++[x]∧x.id=S.next∧x.t=bM T∧S'.next=S.next+1∧x.hash=S'.last∧S'.last=iG (S.last++fq (bM T))∧S'.last.length=32:=by
 refine⟨⟨S.next,iG (S.last++fq (bM T)),bM T⟩,_,by unfold bW;rw[if_neg (by omega)],rfl,rfl,rfl,rfl,rfl,rfl,oL _⟩
structure vY (W:World) (o:Mark) (w:World) (b s t:Nat) (S:iC) (T:aI):Prop where
 box:∃x y:Nat,w.heap[b]? =some (.cells #[ptr s,ptr t,ptr x,ptr y] 62 (0,0))
 own:o b=3
 low:b<w.heap.size
 marks:Marks W o w
 sn:dX o 1 w s S
 tr:eU o 2 w t T
 ok:dR T
 len:S.l.length≤8
 last:S.last.length≤64
 next:0≤S.next
section
variable {W w:World} {o:Mark} {b s t:Nat} {S:iC} {T:aI}
theorem vY.grow (h:vY W o w b s t S T) {w':World} (hb:Below w.heap.size w w'):vY W o w' b s t S T:=by
 obtain⟨x,y,hx⟩:=h.box
 exact⟨⟨x,y,(hb.block b h.low).trans hx⟩,h.own,Nat.lt_of_lt_of_le h.low hb.size,h.marks.step (I:=fun _=>False) (fun e=>e) (Step.grow h.marks hb),h.sn.grow h.marks hb,h.tr.grow hb,h.ok,h.len,h.last,h.next⟩
theorem vY.snaps (h:vY W o w b s t S T) {w':World} {o':Mark} {S':iC} (hs:Step o (fun k=>k=1) w o' w') (hS:dX o' 1 w' s S') (hl:S'.l.length≤8) (hl2:S'.last.length≤64) (hn:0≤S'.next):vY W o' w' b s t S' T:=by
 obtain⟨x,y,hx⟩:=h.box
 have h0:¬(fun k:Nat=>k=1) 0:=by simp
 exact⟨⟨x,y,(hs.block h.low (by rw[h.own];simp)).trans hx⟩,(hs.old b h.low).trans h.own,Nat.lt_of_lt_of_le h.low hs.keep.size,h.marks.step h0 hs,hS,h.tr.step h0 (by simp) hs,h.ok,hl,hl2,hn⟩
theorem vY.take (h:vY W o w b s t S T) (hn:S.next≤1000000000):Calls Tryz.prog 38 #[ptr s,ptr t] w fun e w'=>e= .returned (.tuple #[.int .i64 (bW S T).1.1, .int .i64 (bW S T).1.2])∧∃o',vY W o' w' b s t (bW S T).2 T:=by
 refine(oM h.sn h.tr h.marks (by omega) h.ok h.len h.last h.next hn).mono ?_
 rintro e w' ⟨rfl,o',hs,hS⟩
 refine⟨rfl,o',h.snaps hs hS ?_ ?_ ?_⟩
 all_goals
  by_cases hf:S.l.length<8
  ·obtain⟨x,S',e1,e2,e3,e4,e5,e6,e7,e8⟩:=lF (T:=T) hf
   have:=h.next
   rw[e1]
   first
    |(rw[e2,List.length_append];simp;omega)
    |(rw[e8];omega)
    |(rw[e5];omega)
  ·have e1:bW S T=((0,4),S):=by unfold bW;rw[if_pos (by omega)]
   rw[e1]
   first
    |exact h.len
    |exact h.last
    |exact h.next
theorem iq.next {S S':iC} {id now er:Int} (h:iq S id now er S'):S'.next=S.next∧S'.last=S.last∧S'.l.length≤S.l.length:=by
 rcases h with⟨_,rfl,_⟩|⟨k,x,hx,_,_,h⟩
 ·exact⟨rfl,rfl,Nat.le_refl _⟩
 ·rcases h with⟨_,_,rfl⟩|⟨_,_,rfl⟩
  ·exact⟨rfl,rfl,Nat.le_refl _⟩
  ·refine⟨rfl,rfl,?_⟩
   show(S.l.take k++S.l.drop (k+1)).length≤_
   rw[List.length_append,List.length_take,List.length_drop];omega
theorem vY.all (h:vY W o w b s t S T):Calls Tryz.prog 53 #[ptr s] w (qX w (allM S)):=zy h.sn (by have:=h.len;omega)
end
theorem AX (W w:World) (o:Mark) (hM:Marks W o w) (j:Nat) (hj:j≠0):Calls Tryz.prog 10 #[] w fun e w'=>∃p o',e= .returned (ptr p)∧Step o (fun k=>k=j) w o' w'∧eU o' j w' p kr∧Below w.heap.size w w':=by
 refine(Mk w).mono ?_
 rintro e w' ⟨g,mb,ib,nb,p,rfl,hA,hg,hb⟩
 obtain⟨o',hs,h1,h2⟩:=jW hM j (fun b=>g b≠ .none) (w':=w') (fun b hb'=>⟨hg b hb',hA.low b hb'⟩) hb
 exact⟨p,o',rfl,hs,⟨g,_,mb,ib,nb,hA,fun b hb'=>h1 b hb',fun b hb'=>hb'.elim⟩,hb⟩
theorem FT:sP (bM kr) 0=false:=by kernel_rfl
theorem zB {S S':iC} {er:Int} {x y:dQ} (h:iq S 1 0 er S') (hl:S.l=[x]++[y]) (hx:x.id=1) (ht:x.t=bM kr):er=0∧S'.l=[y]∧S'.next=S.next∧S'.last=S.last:=by
 rcases h with⟨_,_,hno⟩|⟨k,z,hz,hid,hno,h⟩
 ·exact absurd hx (hno x (by rw[hl];simp))
 ·rcases k with _|k
  ·have e1:x=z:=by rw[hl]at hz;simpa using hz
   subst e1
   rcases h with⟨hb,_⟩|⟨_,rfl,rfl⟩
   ·rw[ht,FT]at hb;cases hb
   ·exact⟨rfl,by show S.l.take 0++S.l.drop 1=[y];rw[hl];rfl,rfl,rfl⟩
  ·exact absurd hx (hno x (by rw[hl];simp))
set_option maxRecDepth 100000 in
set_option maxHeartbeats 8000000 in
theorem mo (w:World):Calls Tryz.prog 42 #[] w fun e w'=>e= .returned (.bool true)∧Below w.heap.size w w':=by
 have hM0:Marks w (fun _=>0) w:=⟨fun b hb=>absurd rfl hb,Below.refl _ _⟩
 have RF:=Lib.hid hM0
 clear hM0
 have h0:¬(fun k:Nat=>k=1) 0:=by simp
 go_enter Tryz.func42,Tryz.ntmps42
 go_wp2_with fail
 (with_reducible refine(yu RF.out 1 (by omega)).mono ?_)
 rintro e w1 ⟨s,o1,rfl,hs1,hS1,hb1⟩
 have Ei:=Lib.hid (RF.out.step (by simp) hs1)
 have kR:=Lib.hid hS1
 clear hs1 hS1 hb1 RF
 go_wp2_with fail
 (with_reducible refine(AX w w1 o1 Ei.out 2 (by omega)).mono ?_)
 rintro e w2 ⟨t,o2,rfl,hs2,Am,hb2⟩
 have D8:=Lib.hid (Ei.out.step (by simp) hs2)
 have HS2:=Lib.hid (kR.out.step (by simp) (by simp) hs2)
 have HT2:=Lib.hid Am
 obtain⟨x1,S1,e1,l1,id1,t1,n1,g1,_,q1⟩:=lF (S:=gP) (T:=kr) (by simp[gP])
 have hc1:Calls Tryz.prog 38 #[ptr s,ptr t] w2 fun e w'=>e= .returned (.tuple #[.int .i64 1, .int .i64 0])∧∃o',Step o2 (fun k=>k=1) w2 o' w'∧dX o' 1 w' s S1:=by
  have:=oM HS2.out HT2.out D8.out (by omega) uO (by simp[gP]) (by simp[gP]) (by simp[gP]) (by simp[gP])
  rw[e1]at this
  exact this
 have ZV:=Lib.hid hc1
 have AY:=Lib.hid (show S1.l=[x1]from l1)
 have Hw:=Lib.hid (And.intro (show x1.id=1 from id1) t1)
 have AZ:=Lib.hid (show S1.next=2 from n1)
 have HQ1:=Lib.hid q1
 clear hs2 Am hb2 Ei kR hc1 e1 l1 id1 t1 n1 g1 q1
 go_wp2_with fail
 (with_reducible refine ZV.out.mono ?_)
 rintro e w3 ⟨rfl,o3,hs3,Vs⟩
 have JA:=Lib.hid (D8.out.step h0 hs3)
 have HT3:=Lib.hid (HT2.out.step h0 (by simp) hs3)
 have Aj:=Lib.hid Vs
 obtain⟨x2,S2,e2,l2,id2,t2,n2,g2,_,q2⟩:=lF (S:=S1) (T:=kr) (by rw[AY.out];simp)
 have hc2:Calls Tryz.prog 38 #[ptr s,ptr t] w3 fun e w'=>e= .returned (.tuple #[.int .i64 2, .int .i64 0])∧∃o',Step o3 (fun k=>k=1) w3 o' w'∧dX o' 1 w' s S2:=by
  have:=oM Aj.out HT3.out JA.out (by omega) uO (by rw[AY.out];simp) (by rw[HQ1.out];omega) (by rw[AZ.out];omega) (by rw[AZ.out];omega)
  rw[e2,AZ.out]at this
  exact this
 have Oy:=Lib.hid hc2
 have HL2:=Lib.hid (show S2.l=[x1]++[x2]by rw[l2,AY.out])
 have LX:=Lib.hid (show x2.id=2 by rw[id2,AZ.out])
 have VF:=Lib.hid (show S2.next=3 by rw[n2,AZ.out];rfl)
 have ZB:=Lib.hid q2
 clear hs3 Vs hc2 e2 l2 id2 t2 n2 g2 q2 D8 HT2 HS2 ZV
 go_wp2_with fail
 (with_reducible refine Oy.out.mono ?_)
 rintro e w4 ⟨rfl,o4,hs4,ZW⟩
 have Cc:=Lib.hid (JA.out.step h0 hs4)
 have BL:=Lib.hid (HT3.out.step h0 (by simp) hs4)
 have hf:=vX ZW Cc.out (by omega) (by rw[HL2.out];simp) 1 0
 have HF:=Lib.hid hf
 clear hs4 ZW hf JA HT3 Aj Oy
 go_wp2_with fail
 (with_reducible refine HF.out.mono ?_)
 rintro e w5 ⟨er,S3,o5,rfl,hfr,hs5,hS5⟩
 obtain⟨rfl,l3,n3,q3⟩:=zB hfr HL2.out Hw.out.1 Hw.out.2
 have O9:=Lib.hid (Cc.out.step h0 hs5)
 have Er:=Lib.hid (BL.out.step h0 (by simp) hs5)
 obtain⟨x3,S4,e4,l4,ZX,t4,n4,g4,_,q4⟩:=lF (S:=S3) (T:=kr) (by rw[l3];simp)
 have hc3:Calls Tryz.prog 38 #[ptr s,ptr t] w5 fun e w'=>e= .returned (.tuple #[.int .i64 3, .int .i64 0])∧∃o',Step o5 (fun k=>k=1) w5 o' w'∧dX o' 1 w' s S4:=by
  have:=oM hS5 Er.out O9.out (by omega) uO (by rw[l3];simp) (by rw[q3,ZB.out];omega) (by rw[n3,VF.out];omega) (by rw[n3,VF.out];omega)
  rw[e4,n3,VF.out]at this
  exact this
 have ZY:=Lib.hid hc3
 have XK:=Lib.hid (show allM S4=[2,3]by unfold allM;rw[l4,l3];simp[ZX,LX.out,n3,VF.out])
 have BM:=Lib.hid (show S4.l.length≤1000 by rw[l4,l3];simp)
 clear hfr hs5 hS5 hc3 e4 l4 ZX t4 n4 g4 q4 l3 n3 q3 Cc BL HF
 go_wp2_with fail
 (with_reducible refine ZY.out.mono ?_)
 rintro e w6 ⟨rfl,o6,hs6,Z0⟩
 have Hq:=Lib.hid (O9.out.step h0 hs6)
 have hal:=zy Z0 BM.out
 rw[XK.out]at hal
 have qz:=Lib.hid hal
 clear hs6 Z0 hal O9 Er ZY
 go_wp2_with fail
 (with_reducible refine qz.out.mono ?_)
 rintro e w7 ⟨a,cap,he,hcap,hr,zC⟩
 have he:e= .returned (.slice a 2 cap):=he
 subst he
 have uQ:=Lib.hid (zC.trans ((wall w7 (.cells #[.int .i64 2, .int .i64 3] 3)).mono zC.size))
 have hsm:Calls Tryz.prog 52 #[.slice a 2 cap, .slice (some ⟨w7.heap.size,0,none⟩) 2 2] (w7.alloc (.cells #[.int .i64 2, .int .i64 3] 3)) (Eu (w7.alloc (.cells #[.int .i64 2, .int .i64 3] 3)) true):=
  FQ a (some ⟨w7.heap.size,0,none⟩) cap 2 [2,3] [2,3] _ (hr.below (wall w7 _) (Nat.le_refl _)) (fC (w:=w7) [.int .i64 2, .int .i64 3] 3 (by simp[maxLen]))
 have PG:=Lib.hid hsm
 clear hr zC hsm qz
 go_wp2_with fail
 (with_reducible refine PG.out.mono ?_)
 rintro e w8 ⟨rfl,q,rfl⟩
 go_wp2_with fail
 go_ret
 have h8:=Hq.out.below.trans (uQ.out.mono Hq.out.below.size)
 exact⟨rfl,⟨h8.os,h8.tape,h8.output,h8.size,h8.block⟩⟩
theorem flat_get {α β:Type} (f:α→List β) (k:Nat) (hk:∀x,(f x).length=k):∀(L:List α) (i j:Nat) (x:α),L[i]? =some x→j<k→(L.flatMap f)[i*k+j]? =(f x)[j]?
 |[],i,j,x,h,_=>by simp at h
 |y::r,0,j,x,h,hj=>by
  simp only[List.getElem?_cons_zero,Option.some.injEq]at h
  subst h
  rw[List.flatMap_cons,Nat.zero_mul,Nat.zero_add,List.getElem?_append_left (by rw[hk];exact hj)]
 |y::r,i+1,j,x,h,hj=>by
  rw[List.flatMap_cons,List.getElem?_append_right (by rw[hk,Nat.add_mul];omega),hk,show(i+1)*k+j-k=i*k+j by rw[Nat.add_mul];omega]
  exact flat_get f k hk r i j x (by simpa using h) hj
abbrev iw:=Int×Nm×Int
def bA (q:Int×bf):List Value:=[.int .i64 q.1, .int .i64 q.2.kind, .int .i64 q.2.links, .int .i64 q.2.b.length, .int .u64 q.2.aS, .bool q.2.closed]
def dM (e:iw):List Value:=[.int .i64 e.1, .string (strOf e.2.1), .int .i64 e.2.2]
def iY (q:Int×bf):List iw:=q.2.names.map fun e=>(q.1,e.1,e.2)
def aQ (T:aI):List iw:=T.flatMap iY
def BytesAt (F:Nat→Prop) (w:World) (a:Option Addr) (bs:List (List UInt8)):Prop:=
 ∃vs:List Value,ak F w a bs.length vs∧∀(i:Nat) (b:List UInt8),bs[i]? =some b→∃(a:Option Addr) (c:Nat),vs[i]? =some (.slice a b.length c)∧qN b.length c∧ak F w a b.length (b.map bv)
theorem BytesAt.move {F F':Nat→Prop} {w w':World} {a:Option Addr} {bs:List (List UInt8)} (h:BytesAt F w a bs) (hs:w.heap.size≤w'.heap.size) (hk:∀b,F b→b<w.heap.size→F' b∧w'.heap[b]? =w.heap[b]?):BytesAt F' w' a bs:=by
 obtain⟨vs,h1,h2⟩:=h
 refine⟨vs,h1.move hs hk,fun i b hb=> ?_⟩
 obtain⟨a,c,h3,h4,h5⟩:=h2 i b hb
 exact⟨a,c,h3,h4,h5.move hs hk⟩
def Base (a:Option Addr) (c:Nat):Prop:=(a=none∧c=0)∨∃b,a=some ⟨b,0,none⟩
def Off (F:Nat→Prop) (r:Nat):Nat→Prop:=fun b=>F b∧b≠r
structure eX (F:Nat→Prop) (w:World) (r:Nat) (T:aI) (D:List (List UInt8)) (E:List iw):Prop where
 head:∃aN cN aD cD aE cE,w.heap[r]? =some (.cells #[.slice aN T.length cN, .slice aD D.length cD, .slice aE E.length cE] 102 (0,0))∧T.length≤cN∧D.length≤cD∧E.length≤cE∧
  ak (Off F r) w aN (T.length*6) (T.flatMap bA)∧BytesAt (Off F r) w aD D∧ak (Off F r) w aE (E.length*3) (E.flatMap dM)∧Base aE cE
 own:F r
 low:∀b,F b→b<w.heap.size
abbrev jr (F:Nat→Prop) (w:World) (r:Nat) (T:aI):Prop:=eX F w r T (T.map fun q=>q.2.b) (aQ T)
theorem eX.keeps {F fp:Nat→Prop} {w w':World} {r:Nat} {T:aI} {D:List (List UInt8)} {E:List iw} (h:eX F w r T D E) (hK:Keeps fp w w') (hn:∀b,F b→¬fp b):eX F w' r T D E:=by
 have hk:∀b,Off F r b→b<w.heap.size→Off F r b∧w'.heap[b]? =w.heap[b]? :=fun b hb hbw=>⟨hb,hK.block b hbw (hn b hb.1)⟩
 obtain⟨aN,cN,aD,cD,aE,cE,h1,h2,h3,h4,h8,h9,h10,h11⟩:=h.head
 exact⟨⟨aN,cN,aD,cD,aE,cE,(hK.block r (h.low r h.own) (hn r h.own)).trans h1,h2,h3,h4,h8.move hK.size hk,h9.move hK.size hk,h10.move hK.size hk,h11⟩,h.own,fun b hb=>Nat.lt_of_lt_of_le (h.low b hb) hK.size⟩
theorem eX.below {F:Nat→Prop} {w w':World} {B r:Nat} {T:aI} {D:List (List UInt8)} {E:List iw} (h:eX F w r T D E) (hb:Below B w w') (hB:w.heap.size≤B):eX F w' r T D E:=
 h.keeps (fp:=fun x=>B≤x) (Keeps.below hb) fun x hx hf=>by have:=h.low x hx;omega
theorem dG (q:Int×bf):(bA q).length=6:=rfl
theorem iL (e:iw):(dM e).length=3:=rfl
theorem ak.wide {α:Type} {F:Nat→Prop} {w:World} {a:Option Addr} {n k:Nat} {f:α→List Value} {L:List α} (h:ak F w a (n*k) (L.flatMap f)) (hk:∀x,(f x).length=k) (hn:L.length=n) {i:Nat} {x:α} (hx:L[i]? =some x) (hk0:0<k):
  ∃b off,a=some ⟨b,off,none⟩∧F b∧b<w.heap.size∧i<n∧∀j,j<k→w.cell? ⟨b,off+i*k+j,none⟩=(f x)[j]? :=by
 have hi:i<n:=by rw[←hn];exact(List.getElem?_eq_some_iff.1 hx).1
 have hik:i*k+k≤n*k:=by rw[←Nat.succ_mul];exact Nat.mul_le_mul_right k hi
 obtain⟨b,off,e,hF,hb,hc⟩:=h.at_ (by omega)
 refine⟨b,off,e,hF,hb,hi,fun j hj=> ?_⟩
 rw[Nat.add_assoc,hc (i*k+j) (by omega),flat_get f k hk L i j x hx hj]
section
variable {F:Nat→Prop} {r:Nat} {T:aI} {D:List (List UInt8)} {E:List iw}
def lQ (id:Int) (q:Int×bf):Bool:=decide (q.1=id)
set_option maxHeartbeats 1000000 in
theorem pJ (id:Int) (w:World) (h:eX F w r T D E) (hl:T.length≤64):Calls Tryz.prog 64 #[ptr r, .int .i64 id] w fun e w'=>e= .returned (.int .i64 (mI (lQ id) T))∧w=w':=by
 obtain⟨aN,cN,aD,cD,aE,cE,h1,-,-,-,hN,-,-,-⟩:=h.head
 have hr0:=h.low r h.own
 have hc0:w.cell? ⟨r,0,none⟩=some (.slice aN T.length cN):=by simp[World.cell?,h1]
 have HN:=Lib.hid hN
 obtain⟨n,hn⟩:∃n,n=T.length:=⟨_,rfl⟩
 rw[←hn]at hc0 hl HN
 have HL:=Lib.hid hn
 clear h h1 hN hn
 go_enter Tryz.func64,Tryz.ntmps64
 go_wp2
 go_loop [5] (fun i=>∃k:Nat,k≤n∧i= .int .i64 k∧(T.take k).any (lQ id)=false) (fun i=>n-(intOf i).toNat)
 case atStart=>exact⟨0,by omega,rfl,by simp⟩
 case round=>
  obtain⟨k,hk,rfl,hany⟩:=hrel
  have HA:=Lib.hid hany
  clear hany
  by_cases hlt:k<n
  ·have hx:T[k]? =some (T[k]'(by have:=HL.out;omega)):=List.getElem?_eq_getElem _
   obtain⟨q,hq⟩:∃q,q=T[k]'(by have:=HL.out;omega):=⟨_,rfl⟩
   rw[←hq]at hx
   have HX:=Lib.hid hx
   obtain⟨b,off,rfl,hF,hb,hi,hc⟩:=HN.out.wide dG HL.out.symm hx (by omega)
   have c0:w.cell? ⟨b,off+k*6,none⟩=some (.int .i64 q.1):=hc 0 (by omega)
   clear hx hq hc
   have i0:(0:Int)≤k:=by omega
   have i1:(k:Int)<n:=by omega
   by_cases hp:q.1=id
   ·have hpp:(q.1==id)=true:=by simpa using hp
    have HP:Hid (lQ id q=true):=by show lQ id q=true;simp[lQ,hp]
    clear hp
    go_wp2
    go_ret
    exact⟨fP (rU HA.out HX.out HP.out).symm,rfl⟩
   ·have hpp:(q.1==id)=false:=by simpa using hp
    have HP:Hid (lQ id q=false):=by show lQ id q=false;simp[lQ,hp]
    clear hp
    go_wp2
    go_round
    case rel=>exact⟨k+1,by omega,by go_num,any_take_succ HA.out HX.out HP.out⟩
    case measure=>simp[intOf];omega
  ·go_wp2
   go_ret
   exact⟨fP (kQ (by have:=HA.out;rwa [List.take_of_length_le (by have:=HL.out;omega)]at this)).symm,rfl⟩
end
end Go.Proofs.YtohpcppeajijnaaGreat
