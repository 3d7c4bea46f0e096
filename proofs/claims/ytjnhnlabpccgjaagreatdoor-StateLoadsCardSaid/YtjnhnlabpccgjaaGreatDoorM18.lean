/- tree -/
import Derived.Test.YtjnhnlabpccgjaaGreatDoorM12
import Derived.Test.YtjnhnlabpccgjaaGreatDoorM14
import Derived.Test.YtjnhnlabpccgjaaGreatDoorM17
import Derived.Shelf.SlMaps.Clone
import Derived.WalkLawsBesides
import Derived.Test.YtjnhnlabpccgjaaGreatDoorM08
import Derived.Test.YtjnhnlabpccgjaaGreatDoorM16
import Derived.Test.YtjnhnlabpccgjaaGreatDoorM15
set_option maxRecDepth 100000
set_option maxHeartbeats 64000000
set_option linter.all false
namespace Go.Proofs.YtjnhnlabpccgjaaGreatDoor
open Go.ChangeShapes Go.WideShapes Go.ChangeAt Go.RowKit
theorem Jz(b:Nat)(l:List (Nm×Value))(w:World)(hM:MapAt iq w b l):Calls Tryz.prog 163 #[.map (some b)] w fun e w'=>e= .returned (.map (some w.heap.size))∧MapAt iq w' w.heap.size l∧Below w.heap.size w w'∧w.heap.size<w'.heap.size:=
 (AnyW.maps_Clone_owns Tryz.TV 9 oH b l.length (yE iq l) w hM).mono fun e w' h=>⟨h.1,MapAt.vZ h.2.1,h.2.2.2,h.2.1.lt⟩
theorem L9(w:World):Calls Tryz.prog 163 #[.map none] w fun e w'=>e= .returned (.map none)∧w'=w:=AnyW.maps_Clone_nil Tryz.TV w
def Xu(w:World)(x:bJ)(e:Ending)(w':World):Prop:=∃n,e= .returned (fu x n)∧(x.kind=2→MapAt iq w' n (fA x)∧w.heap.size≤n∧n<w'.heap.size)∧Below w.heap.size w w'
theorem L_{w:World}{x:bJ}{nb:Nat}(hM:x.kind=2→MapAt iq w nb (fA x)):Calls Tryz.prog 163 #[fu x nb] w (Xu w x):=by
 by_cases hk:x.kind=2
 ·have e1:fu x nb= .map (some nb):=if_pos hk;rw[e1];refine(Jz nb (fA x) w (hM hk)).mono ?_;rintro e w' ⟨rfl,h1,h2,h3⟩;exact⟨w.heap.size,by unfold fu;rw[if_pos hk],fun _=>⟨h1,Nat.le_refl _,h3⟩,h2⟩
 ·have e1:fu x nb= .map none:=if_neg hk;rw[e1];refine(L9 w).mono ?_;rintro e w' ⟨rfl,rfl⟩;exact⟨0,by unfold fu;rw[if_neg hk],fun h=>absurd h hk,Below.refl _ _⟩
section
variable{g:Nat→Own}{D:Nat→Prop}{p mb:Nat}{ib nb:Int→Nat}{T:aA}
def Xv(g:Nat→Own)(D:Nat→Prop)(w:World)(mb:Nat)(ib:Int→Nat)(T:aA)(q mq r:Nat)(wr:World):Prop:=
 ∃(left:Int→Bool) (cnt:Nat) (g':Nat→Own) (SB nb':Int→Nat),fJ bK wr mb r (T.map fun q=>(q.1,ptr (ib q.1))) left cnt∧aP g' D wr q mq SB nb' (qY left T)∧(∀b,g' b≠ .none→w.heap.size≤b∧b≠r)∧Below w.heap.size w wr
def CopyAt(D:Nat→Prop)(w:World)(T:aA)(e:Ending)(w':World):Prop:=
 ∃q g' mq SB nb',e= .returned (ptr q)∧aP g' D w' q mq SB nb' T∧(∀b,g' b≠ .none→w.heap.size≤b)∧Below w.heap.size w w'
theorem Ma{w0:World}{q mq:Nat}(hq:w0.heap[q]? =some (.cells #[.map (some mq)] 106 (0,0)))(hm:MapAt bK w0 mq [])(hne:q≠mq)(hD:∀b,D b→b<w0.heap.size∧b≠q∧b≠mq):
  aP (fun b=>if b=q then .head else if b=mq then .items else .none) D w0 q mq (fun _=>0) (fun _=>0) []:=by
 refine⟨hq,hm,fun k x hx=>(by simp[aj]at hx),if_pos rfl,by rw[if_neg (aaT hne),if_pos rfl],fun k x hx=>(by simp[aj]at hx),fun k x hx=>(by simp[aj]at hx),fun b hb=> ?_,fun b hb=> ?_,fun b hb=>(hD b hb).1⟩
 ·rw[if_neg (hD b hb).2.1,if_neg (hD b hb).2.2]
 ·by_cases h1:b=q
  ·rw[h1];exact(iL.1 hq).1
  ·by_cases h2:b=mq
   ·rw[h2];exact hm.lt
   ·rw[if_neg h1,if_neg h2]at hb;exact absurd rfl hb
theorem Xw(w:World)(h:aP g D w p mb ib nb T)(hT:OkW T):Calls Tryz.prog 86 #[ptr p] w (CopyAt D w T):=by
 have hmm:= @run_makeMap Tryz.prog;have HH:=acr h;have HT:=acr hT;obtain⟨c0,hpw,hmw⟩:=h.cell;have HB2:=acr ((wall w (.map #[] 0)).trans ((wall (w.alloc (.map #[] 0)) (.cells #[.map (some w.heap.size)] 106)).mono (by simp)));have n_:=acr ((h.below HB2.o acu).map);have c2:=(HB2.o.cell (p:=⟨p,0,none⟩) hpw).trans c0;clear h hT;go_enter Tryz.func86,Tryz.ntmps86;go_wp2_with (at_range;refine oZ bK rfl _ 104 102 rfl Tryz.underlying104 rfl n_.o ?_;intro w0 hR0 hB0 hs0)
 go_frame
 have HQ2:=acr (qj (w:=w.alloc (.map #[] 0)) (v:= .map (some w.heap.size)) (t:=106));have Qk:((w.alloc (.map #[] 0)).alloc (.cells #[.map (some w.heap.size)] 106)).heap[w.heap.size+1]? =some (.cells #[.map (some w.heap.size)] 106 (0,0)):=by
  have:=(MapKept.heap_alloc (w.alloc (.map #[] 0)) (.cells #[.map (some w.heap.size)] 106)).1;simpa using this
 have hmb:MapAt bK ((w.alloc (.map #[] 0)).alloc (.cells #[.map (some w.heap.size)] 106)) w.heap.size []:=(MapAt.made (F:=bK) w).kept ((MapKept.heap_alloc (w.alloc (.map #[] 0)) _).2 w.heap.size (by simp));simp only[Pe]at hR0 hB0 hs0;simp only[Pe];have hA0:aP (fun b=>if b=w.heap.size+1 then .head else if b=w.heap.size then .items else .none) D w0 (w.heap.size+1) w.heap.size (fun _=>0) (fun _=>0) []:=by
  refine Ma ((hB0.block _ (by omega)).trans Qk) (hmb.kept (hB0.block _ (by omega))) (by omega) fun b hb=> ?_;have:=HH.o.o_ b hb;omega
 go_loopw [4,5] (fun _ _ wr=>Xv g D w mb ib T (w.heap.size+1) w.heap.size (w.heap.size+2) wr) (fun _ _ wr=>wr.rangeLeft mb (w.heap.size+2))
 case atStart=>
  refine⟨_,_,(fun b=>if b=w.heap.size+1 then .head else if b=w.heap.size then .items else .none),fun _=>0,fun _=>0,hR0,?_,?_,HB2.o.trans (hB0.mono (by omega))⟩
  ·rw[Jg (fun q hq=>by rw[eX,aS bY HT.o.sorted hq];rfl)];exact hA0
  ·intro b hb;by_cases h1:b=w.heap.size+1
   ·omega
   ·by_cases h2:b=w.heap.size
    ·omega
    ·simp only[if_neg h1,if_neg h2]at hb;exact absurd rfl hb
 case round=>
  obtain⟨left,cnt,g1,Zr,Zt,hR,hA,hg1,hB⟩:=hrel;have HA1:=acr hA;have HR:=acr hR;have HB:=acr hB;have G6:=acr hg1;clear hR hA hB hg1;go_wp2_with (first|(at_next;refine qU bK rfl _ rfl rfl HR.o ?_ ?_))
  ·intro hdone;have FU:acs (qY left T=T):=P_ hdone;clear hdone;go_wp2;go_ret;have h9:=HA1.o;rw[FU.o]at h9;exact⟨_,g1,_,Zr,Zt,rfl,h9,fun b hb=>(G6.o b hb).1,HB.o⟩
  ·intro k v w3 cnt1 TR hleft hg2 nu hlt hK1 hs1 hen;rw[eX]at hg2;cases hy:aj k T with
   |none=>rw[hy]at hg2;cases hg2
   |some x=>
    rw[hy]at hg2;cases hg2;have hrl:=HR.o.lt;have hB3:Below w.heap.size w w3:=HB.o.trans (hK1.gP HB.o.size fun b hb (hbr:b=w.heap.size+2)=>by omega);have hAs:=HH.o.below hB3 acu;have hA3:aP g1 D w3 (w.heap.size+1) w.heap.size Zr Zt (qY left T):=HA1.o.keeps hK1 fun b hb (hbr:b=w.heap.size+2)=>by
     rcases hb with hb|hb
     ·exact(G6.o b hb).2 hbr
     ·have:=HH.o.o_ b hb;omega
    obtain⟨a,c,hcb,hcap,hrow⟩:=(hAs.item k x hy).cells;have hnm:=(hAs.item k x hy).names;have hiw:ib k<w3.heap.size:=(iL.1 hcb).1;have hqw:=hA3.cell.2.1;have hq0:=hA3.cell.1;have hR1w:=nu.lt;have HST:acs (∀w5 v,Below w3.heap.size w3 w5→∃w6,(Instr.mapUpdate 104 (.map (some w.heap.size)) (.int .i64 k) v).run Tryz.prog w5= .ok () w6∧MapAt bK w6 w.heap.size (b_ bK.lt k v ((qY left T).map fun q=>(q.1,ptr (Zr q.1))))∧w5.mapTurned w6 w.heap.size):=fun w5 v hb=>by
     refine(hA3.map.kept (hb.block _ hA3.cell.2.2)).rT bK Tryz.underlying104 ?_ k v TR;have h1:(qY left T).length≤T.length:=aa4 _ _;have h2:=HT.o.len;rw[List.length_map];unfold maxLen;omega
    have iW:acs (∀w',Below w3.heap.size w3 w'→w'.cell? ⟨w.heap.size+1,0,none⟩=some (.map (some w.heap.size))∧w'.cell? ⟨ib k,0,none⟩=some (.int .i64 k)∧w'.cell? ⟨ib k,1,none⟩=some (.int .i64 x.kind)∧w'.cell? ⟨ib k,2,none⟩=some (.int .i64 x.links)∧w'.cell? ⟨ib k,3,none⟩=some (.int .i64 x.b.length)∧w'.cell? ⟨ib k,4,none⟩=some (.int .u64 x.aF)∧w'.cell? ⟨ib k,5,none⟩=some (.bool x.closed)∧w'.cell? ⟨ib k,6,none⟩=some (.slice a x.b.length c)∧w'.cell? ⟨ib k,7,none⟩=some (fu x (nb k))):=fun w' hb=>by
     refine⟨(hb.cell (p:=⟨w.heap.size+1,0,none⟩) hqw).trans hq0,?_,?_,?_,?_,?_,?_,?_,?_⟩
     ·exact(hb.cell (p:=⟨ib k,0,none⟩) hiw).trans (dD hcb 0)
     ·exact(hb.cell (p:=⟨ib k,1,none⟩) hiw).trans (dD hcb 1)
     ·exact(hb.cell (p:=⟨ib k,2,none⟩) hiw).trans (dD hcb 2)
     ·exact(hb.cell (p:=⟨ib k,3,none⟩) hiw).trans (dD hcb 3)
     ·exact(hb.cell (p:=⟨ib k,4,none⟩) hiw).trans (dD hcb 4)
     ·exact(hb.cell (p:=⟨ib k,5,none⟩) hiw).trans (dD hcb 5)
     ·exact(hb.cell (p:=⟨ib k,6,none⟩) hiw).trans (dD hcb 6)
     ·exact(hb.cell (p:=⟨ib k,7,none⟩) hiw).trans (dD hcb 7)
    have SE:=acr (L_ (w:=w3.drew) (x:=x) (nb:=nb k) fun hk=>(hnm hk).kept rfl);have Xp:=acr hA3;have HY:=acr hy;have HR1:=acr nu;have wB:=acr hlt;have HB3:=acr hB3;have lg:=acr hrow;have HCAP:=acr hcap;have wD:=acr hleft;have e3:bK.val k= .int .i64 k:=rfl;rw[e3]at hen⊢;obtain⟨nl,hnl⟩:∃nl,nl=x.b.length:=⟨_,rfl⟩;obtain⟨nv,hnv⟩:∃nv,nv=fu x (nb k):=⟨_,rfl⟩;rw[←hnl,←hnv]at iW;rw[←hnv]at SE;have HNL:=acr hnl;clear hAs hA3 hcb hcap hrow hnm hy nu hlt hK1 hB3 hleft e3 hnl hnv;go_wp2_with fail;refine wQ 20 ((fun w'=>w'.cell? ⟨w.heap.size+1,0,none⟩=some (.map (some w.heap.size))∧w'.cell? ⟨ib k,0,none⟩=some (.int .i64 k)∧w'.cell? ⟨ib k,1,none⟩=some (.int .i64 x.kind)∧w'.cell? ⟨ib k,2,none⟩=some (.int .i64 x.links)∧w'.cell? ⟨ib k,3,none⟩=some (.int .i64 nl)∧w'.cell? ⟨ib k,4,none⟩=some (.int .u64 x.aF)∧w'.cell? ⟨ib k,5,none⟩=some (.bool x.closed)∧w'.cell? ⟨ib k,6,none⟩=some (.slice a nl c)∧w'.cell? ⟨ib k,7,none⟩=some nv)) ?_ fun hS=> ?_
    ·exact iW.o _ acv.drew
    refine aC 0 hS ?_;refine aC 1 hS ?_;refine aC 2 hS ?_;refine aC 3 hS ?_;refine aC 4 hS ?_;refine aC 5 hS ?_;refine aC 6 hS ?_;refine aC 7 hS ?_;refine aC 8 hS ?_;refine aC 9 hS ?_;refine aC 10 hS ?_;refine aC 11 hS ?_;refine aC 12 hS ?_;refine aC 13 hS ?_;refine aC 14 hS ?_;refine aC 15 hS ?_;refine aC 16 hS ?_;refine bU 17 fun K hK=> ?_;go_simp;refine SE.o.mono ?_;rintro e w4 ⟨n,rfl,hn4,hb4⟩;have Xx:Below w3.heap.size w3 w4:=acv.drew.trans hb4;obtain⟨mv,hmv⟩:∃mv,fu x n= .map mv:=by unfold fu;split<;>exact⟨_,rfl⟩
    rw[hmv];have HMV:=acr hmv;have ZG:=acr hn4;clear hmv hn4 hb4;go_wp2_with fail;refine bV hK (iW.o _ Xx) fun hS=> ?_;clear hK K;refine aC 18 hS ?_;refine bU 19 fun K hK=> ?_;go_simp;have Ql:Below w3.heap.size w3 (w4.alloc (.cells #[.int .i64 k,.int .i64 x.kind,.int .i64 x.links,.int .i64 nl,.int .u64 x.aF,.bool x.closed,.slice a nl c,.map mv] 138)):=Xx.trans ((wall w4 _).mono Xx.size);have hci:(w4.alloc (.cells #[.int .i64 k,.int .i64 x.kind,.int .i64 x.links,.int .i64 nl,.int .u64 x.aF,.bool x.closed,.slice a nl c,.map mv] 138)).heap[w4.heap.size]? =some (.cells (ji k x a c (if x.kind=2 then n else w4.heap.size+1)) 138 (0,0)):=by
     rw[(MapKept.heap_alloc w4 _).1];unfold ji;have e9:fu x (if x.kind=2 then n else w4.heap.size+1)= .map mv:=by
      have:=HMV.o;unfold fu at this⊢;by_cases hk:x.kind=2
      ·rw[if_pos hk]at this⊢;rw[if_pos hk];exact this
      ·rw[if_neg hk]at this⊢;exact this
     rw[e9,←HNL.o]
    have hs5:(w4.alloc (.cells #[.int .i64 k,.int .i64 x.kind,.int .i64 x.links,.int .i64 nl,.int .u64 x.aF,.bool x.closed,.slice a nl c,.map mv] 138)).heap.size=w4.heap.size+1:=by simp
    have hb45:=wall w4 (.cells #[.int .i64 k,.int .i64 x.kind,.int .i64 x.links,.int .i64 nl,.int .u64 x.aF,.bool x.closed,.slice a nl c,.map mv] 138);refine bV hK (iW.o _ Ql) fun hS=> ?_;clear hK K;generalize (w4.alloc (.cells #[.int .i64 k,.int .i64 x.kind,.int .i64 x.links,.int .i64 nl,.int .u64 x.aF,.bool x.closed,.slice a nl c,.map mv] 138))=w5 at*;refine bU 20 fun K hK=> ?_;go_simp;obtain⟨w6,ZH,hM6,Xy⟩:=HST.o w5 (ptr w4.heap.size) Ql;rw[ZH];go_simp;refine nk hK ?_;clear hS hK K;have TW:=acr hM6;have FV:=acr Xy;have HB45:=acr hb45;have HCI:=acr hci;have hs6:=jL Xy;clear hM6 Xy ZH hci hb45;go_wp2_with fail;have hs4:=Xx.size;have hnew:∀b,b<w3.heap.size→b≠w.heap.size→w6.heap[b]? =w3.heap[b]? :=fun b hb hn=>(dL FV.o b (by omega) hn).trans (Ql.block b hb);have SF:fJ bK w6 mb (w.heap.size+2) (T.map fun q=>(q.1,ptr (ib q.1))) _ cnt1:=HR1.o.kept (hnew mb hR1w.1 (by omega)) (hnew _ hR1w.2.1 (by omega));go_roundw
    case rel=>
     have hi9:jD D w6 k w4.heap.size (if x.kind=2 then n else w4.heap.size+1) x:=by
      refine⟨⟨a,c,(dL FV.o _ (by omega) (by omega)).trans HCI.o,HCAP.o,lg.o.move (by omega) fun b hb hbw=>⟨hb,hnew b hbw (by have:=HH.o.o_ b hb;omega)⟩⟩,fun hk=> ?_⟩;obtain⟨k1,k2,k3⟩:=ZG.o hk;rw[if_pos hk];have k2':w3.heap.size≤n:=k2;exact(k1.kept (HB45.o.block n k3)).kept (dL FV.o n (by omega) (by omega))
     have hT9:=Xp.o.addD (i:=w4.heap.size) (n:=if x.kind=2 then n else w4.heap.size+1) (k:=k) (x:=x) (w':=w6) hs4 (by
      by_cases hk:x.kind=2
      ·rw[if_pos hk];exact(ZG.o hk).2.1
      ·rw[if_neg hk];omega) (by
      by_cases hk:x.kind=2
      ·rw[if_pos hk];have:=(ZG.o hk).2.2;omega
      ·rw[if_neg hk];omega) (by omega) (fun hk=>by
      rw[if_pos hk];have:=(ZG.o hk).2.2;omega) (by rw[Aa,if_pos wD.o]) TW.o (by omega) hnew hi9
     rw[LH HT.o.sorted HY.o wD.o]at hT9;refine⟨_,cnt1,_,_,_,SF,hT9,?_,?_⟩
     ·intro b hb;by_cases h1:b=w4.heap.size
      ·omega
      ·simp only[if_neg h1]at hb;by_cases h2:b=(if x.kind=2 then n else w4.heap.size+1)∧x.kind=2
       ·have h3:=ZG.o h2.2;rw[if_pos h2.2]at h2;have h4:w3.heap.size≤n:=h3.2.1;omega
       ·rw[if_neg h2]at hb;exact G6.o b hb
     ·refine HB3.o.trans ⟨?_,?_,?_,by omega,fun b hb=>hnew b (by have:=HB3.o.size;omega) (by omega)⟩
      ·exact(iF FV.o).os.trans Ql.os
      ·exact(iF FV.o).tape.trans Ql.tape
      ·exact(iF FV.o).output.trans Ql.output
    case measure=>
     rw[SF.measure,HR.o.measure];exact wB.o
end
def sZ(ss ss':List ByteArray):Bool:=decide (ss.take ss'.length=ss')
theorem JA(p q:List Nm):sZ (p.map strOf) (q.map strOf)=nV p q:=by
 unfold sZ nV;rw[List.length_map,←aa3];have:((p.take q.length).map strOf=q.map strOf)↔p.take q.length=q:=by
  constructor
  ·intro h;have:=aaF BJ h
   rwa [FI,FI]at this
  ·intro h;rw[h]
 simp only[this]
section
variable{g:Nat→Own}{D:Nat→Prop}{p mb:Nat}{ib nb:Int→Nat}{T:aA}
end
section
variable{g:Nat→Own}{D:Nat→Prop}{p mb:Nat}{ib nb:Int→Nat}{T:aA}
theorem kT.other{B x:Nat}{w w':World}{v v':Value}{bs:List UInt8}(h:kT B w x v bs v' w'){b:Nat}(hb:b<w.heap.size)(hx:b≠x)(hv:v.ownBlock≠some b):w'.heap[b]? =w.heap[b]? ∧v'.ownBlock≠some b:=
 ⟨h.2.1.block b hb fun hf=>hf.elim hx hv,fun he=>by
  rcases h.2.2 b he with h1|h1
  ·exact hv h1
  ·omega⟩
theorem JB(w:World)(l:List UInt8)(hl:l.length≤1000):∃cap w1,(convert 9 28 (.string (strOf l))).run Tryz.prog w= .ok (.slice (some ⟨w.heap.size,0,none⟩) l.length cap) w1∧Below w.heap.size w w1∧w.heap.size<w1.heap.size∧l.length≤cap∧ah (fun b=>b=w.heap.size) w1 (some ⟨w.heap.size,0,none⟩) l.length (l.map bv):=by
 have h:=Lib.run_convert_string_bytes (P:=Tryz.prog) w 9 28 5 (strOf l) abd Tryz.underlying28 abq;rw[fK]at h;refine⟨_,_,h,⟨rfl,rfl,rfl,by rw[Lib.bytesWorld_size];omega,fun k hk=>Lib.bytesWorld_at_old w _ _ k hk⟩,by rw[Lib.bytesWorld_size];omega,grownCap_ge _ _ _ _,⟨by simp,by unfold maxLen;omega,fun h0=>⟨w.heap.size,0,rfl,rfl,by rw[Lib.bytesWorld_size];omega,fun i hi=> ?_⟩⟩⟩;rw[Nat.zero_add,Lib.bytesWorld_cell w _ _ i (by rw[fK];exact hi)];have e1:(strOf l).data.toList=l:=rfl;rw[e1,List.getElem?_map,List.getElem?_eq_getElem hi,aaL,List.getElem?_eq_getElem hi];rfl
structure ItemF(w:World)(D:Nat→Prop)(p mb:Nat)(ib nb:Nat)(k:Int)(x:bJ)(T':List (Int×Value))(a:Option Addr)(c:Nat):Prop where
 c0:w.cell? ⟨ib,0,none⟩=some (.int .i64 k)
 c1:w.cell? ⟨ib,1,none⟩=some (.int .i64 x.kind)
 c2:w.cell? ⟨ib,2,none⟩=some (.int .i64 x.links)
 c3:w.cell? ⟨ib,3,none⟩=some (.int .i64 x.b.length)
 c4:w.cell? ⟨ib,4,none⟩=some (.int .u64 x.aF)
 c5:w.cell? ⟨ib,5,none⟩=some (.bool x.closed)
 c6:w.cell? ⟨ib,6,none⟩=some (.slice a x.b.length c)
 c7:w.cell? ⟨ib,7,none⟩=some (fu x nb)
 row:ah D w a x.b.length (x.b.map bv)
 head:w.cell? ⟨p,0,none⟩=some (.map (some mb))
 map:MapAt bK w mb T'
 names:x.kind=2→MapAt iq w nb (fA x)
theorem Mc{w:World}(h:aP g D w p mb ib nb T){k:Int}{x:bJ}(hx:aj k T=some x):∃a c,x.b.length≤c∧∀w',Below w.heap.size w w'→ItemF w' D p mb (ib k) (nb k) k x (T.map fun q=>(q.1,ptr (ib q.1))) a c:=by
 obtain⟨⟨a,c,hblk,hcap,hrow⟩,_⟩:=h.item k x hx;have hiw:=(iL.1 hblk).1;refine⟨a,c,hcap.1,fun w' hb=> ?_⟩;have h':=h.below hb acu;obtain⟨c0,c1,c2,c3,c4,c5,c7,_⟩:=(h'.item k x hx).cell;refine⟨c0,c1,c2,c3,c4,c5,?_,c7,hrow.below hb acu,h'.cell.1,h'.map,fun hk=>(h'.item k x hx).names hk⟩;rw[hb.cell (p:=⟨ib k,6,none⟩) hiw];simp only[World.cell?,hblk];rfl
theorem TY(w:World)(h:aP g D w p mb ib nb T)(hT:OkW T)(hf:∀k x,aj k T=some x→x.names.length≤65535):Calls Tryz.prog 34 #[ptr p] w (z_ w (dw T)):=by
 have uF:=acr h;have HT:=acr hT;have HFW:=acr hf;have hlen:=hT.len;obtain⟨N,hN⟩:∃N,N=T.length:=⟨_,rfl⟩;have pq:=acr hN;rw[←hN]at hlen;clear h hT hN hf;go_enter Tryz.func34,Tryz.ntmps34;go_wp2_with fail;refine(nU w).mono ?_;rintro e w1 ⟨rfl,hW1,hb1⟩;have HW1:=acr hW1;have HB1:=acr hb1;have h1:=uF.o.below hb1 acu;have hs1:=hb1.size;obtain⟨hc0,hpw,hmw⟩:=h1.cell;have nM:=acr h1.map;have ko:=acr (nJ hW1 (N:Int) (by omega) (by omega) (by simp));clear h1 hW1 hb1;go_wp2_with (at_len;refine lU bK rfl _ 104 102 rfl Tryz.underlying104 rfl nM.o ?_;rw[List.length_map,←pq.o]);refine ko.o.mono ?_;rintro e w2 ⟨rfl,v2,hm2⟩;have HW2:=acr hm2.1;have HB2:=acr (HB1.o.trans (hm2.low HW1.o));have SG:=acr (Ob w2 (uF.o.below HB2.o acu) (by rw[←pq.o];omega));clear hm2 ko hc0 hpw hmw nM HB1;go_wp2_with fail;refine SG.o.mono ?_;rintro e w3 ⟨a3,c3,rfl,hc3,hr3,hb3⟩;have hil:(kX T).length=N:=by unfold kX;rw[List.length_map,pq.o]
 rw[hil]at hc3 hr3⊢;have HW3:=acr (HW2.o.below hb3);have HB3:=acr (HB2.o.trans (hb3.mono HB2.o.size));have HR3:=acr hr3;have HOB:acs (∀b,w2.heap.size≤b→b≠w.heap.size∧v2.ownBlock≠some b):=fun b hb=>⟨by have:=HW2.o.lt;omega,fun he=>by have:=lK HW2.o.own b he;omega⟩;clear hb3 hr3 SG HW2;go_wp2_with fail
 go_loopw [22] (fun iv wr=>∃(i:Nat) (v':Value),i≤N∧iv= .int .i64 i∧kT w.heap.size w3 w.heap.size v2 (eB (N:Int) 2++(T.take i).flatMap fun q=>ku q.1 q.2) v' wr) (fun iv _=>N-(intOf iv).toNat)
 case atStart=>exact⟨0,v2,by omega,rfl,by simpa using kT.refl HW3.o⟩
 case round=>
  obtain⟨i,v',hi,rfl,hm⟩:=hrel;have HM:=acr hm;have E9:=acr (HB3.o.trans (hm.low HW3.o));clear hm;by_cases hin:i<N
  ·have hd1:decide ((i:Int)<(N:Int))=true:=by simpa using hin
   obtain⟨e,he⟩:∃e,T[i]? =some e:=⟨_,List.getElem?_eq_getElem (by have:=pq.o;omega)⟩;obtain⟨k,x⟩:=e;have hmem:(k,x)∈T:=aat he;have hx:aj k T=some x:=aS bY HT.o.sorted hmem;obtain⟨ab,cb,hcb,hF⟩:=Mc uF.o hx;have O1:=acr (HT.o.each k x hx);have xD:=HT.o.ids k x hx;have hok:bK.ok k:=kD xD.1 (by omega);have HG:acs (aj k (T.map fun q=>(q.1,ptr (ib q.1)))=some (ptr (ib k))):=by rw[eX,hx];rfl
   obtain⟨b3,o3,rfl,hS3,hb3w,hcc⟩:=HR3.o.at_ (by omega);have hob:=HOB.o b3 hS3.1;have ck:wr.cell? ⟨b3,o3+i,none⟩=some (.int .i64 k):=by
    rw[aau (w:=w3) (w':=wr) (a:=⟨b3,o3+i,none⟩) (HM.o.other hb3w hob.1 hob.2).1,hcc i hin];unfold kX;rw[List.getElem?_map,List.getElem?_map,he];rfl
   have FR:=hF wr E9.o;have HF:=acr hF;have HX:=acr hx;have HE:=acr he;have c0:=FR.c0;have c1:=FR.c1;have c2:=FR.c2;have c3':=FR.c3;have c4:=FR.c4;have c5:=FR.c5;have p0:=FR.head;have n_:=acr FR.map;have hen:=LM k x O1.o xD.1 xD.2 wr;unfold kE at hen;have Md:=acr hen;have hi0:(0:Int)≤(i:Int):=by omega
   have hiN:(i:Int)<(N:Int):=by omega
   clear hx he hmem hF FR hen hcc;go_wp2_with (first|(at_lookup;refine dJ bK rfl _ _ 104 102 rfl Tryz.underlying104 (Tryz.dP _) rfl n_.o k rfl hok ?_;rw[HG.o]));refine Md.o.mono ?_;rintro e w4 ⟨ae,ne,ce,rfl,hce,hre,hbe⟩;have hne:ne=16:=by have h9:=hre.length;rw[List.length_map,kY]at h9;omega
   subst hne;obtain⟨T9,BN⟩:∃T9,T9=(eB (N:Int) 2++(T.take i).flatMap fun q=>ku q.1 q.2):=⟨_,rfl⟩;rw[←BN]at HM;have hl0:T9.length≤84200000:=by
    have h9:=sW HT.o HFW.o (T.take i) fun q hq=>List.mem_of_mem_take hq;rw[List.length_take]at h9;rw[BN,List.length_append,bB];omega
   have ZI:=acr BN;have Xz:=HM.o.1.below hbe;have Qb:=acr Xz;have eT:=acr (E9.o.trans (hbe.mono E9.o.size));have hxr:=HM.o.1.lt;have Qm:=acr (yS Xz ae 16 ce (rJ k x) hre (fun b hb=>⟨by omega,fun he=>by have:=lK HM.o.1.own b he;omega⟩) hce (by omega) (by omega));have nI:=acr (HM.o.below hbe);clear BN Xz hre hbe hce Md ck c0 c1 c2 c3' c4 c5 p0 n_;go_wp2_with fail;refine Qm.o.mono ?_;rintro e w5 ⟨rfl,v5,LP⟩;have Ct:=acr (nI.o.trans LP);have iB:=acr (eT.o.trans ((LP.low Qb.o).mono acu));have F5:=HF.o w5 iB.o;have c6:=F5.c6;have hbl:=O1.o.size;have vC:=acr uF.o.o_;have HY2:=acr (yS LP.1 ab x.b.length cb x.b F5.row (fun b hb=>⟨by have:=vC.o b hb;omega,fun he=>by have:=dA LP.1.own b he;have:=vC.o b hb;omega⟩) hcb (by simp only[List.length_append,kY,bB];omega) (by omega));clear LP F5 Qm Qb eT nI;go_wp2_with fail;refine HY2.o.mono ?_;rintro e w6 ⟨rfl,v6,Tz⟩;have sV:=acr (iB.o.trans (Tz.low Ct.o.1));have TW:=acr (Ct.o.trans Tz);clear Tz HY2 c6 Ct iB;have Jv:=HFW.o _ _ HX.o;have F6:=HF.o w6 sV.o;have c7:=F6.c7;obtain⟨L,hL⟩:∃L,L=x.names.length:=⟨_,rfl⟩;have Ho:=acr hL;have hlb:(T9++(eB ((16:Nat):Int) 2++rJ k x)++(eB (x.b.length:Int) 2++x.b)).length≤84300000:=by simp only[List.length_append,kY,bB];omega
   have SH:=acr (nJ TW.o.1 (L:Int) (by omega) (by omega) (by omega));by_cases hk2:x.kind=2
   ·have e2:fu x (nb k)= .map (some (nb k)):=if_pos hk2;rw[e2]at c7;have HN:=acr (F6.names hk2);have N9:=acr hk2;clear F6 hk2 e2 hL;go_wp2_with (at_len;refine lU iq rfl _ 136 3 rfl Tryz.underlying136 rfl HN.o ?_;rw[fA,List.length_map,←Ho.o]);refine SH.o.mono ?_;rintro e w7 ⟨rfl,v7,TA⟩;have E_:=sV.o.trans (TA.low TW.o.1);have Cn:=acr E_;have Lb:=acr (TW.o.trans TA);have e2:fu x (nb k)= .map (some (nb k)):=if_pos N9.o;have c7:=(HF.o w7 E_).c7;have hkk:=Tryz.Oj (some (nb k)) w7;have hso:=sorted_at k x w7 (uF.o.below E_ acu) HT.o HX.o (HFW.o _ _ HX.o);rw[e2]at c7 hso;have hll:(x.names.map (·.1)).length=L:=by rw[List.length_map,Ho.o]
    have HSO:=acr hso;have Om:=wall w7 (.cells #[.map (some (nb k))] 136);clear TA E_ e2 hso SH TW sV HN;go_wp2_with (go_at_call 93;refine hkk.mono ?_;rintro e w' ⟨rfl,rfl⟩);refine HSO.o.mono ?_;rintro e w8 ⟨a8,c8,rfl,hc8,BL,wE⟩;rw[hll]at BL hc8⊢;have hb78:Below w7.heap.size w7 w8:=Om.trans (wE.mono Om.size);have uR:=acr (Cn.o.trans (hb78.mono Cn.o.size));have Me:=acr (Lb.o.below hb78);have Lc:=acr BL;have Qn:acs (∀b,w7.heap.size<b→b≠w.heap.size∧v7.ownBlock≠some b):=fun b hb=>⟨by have:=Lb.o.1.lt;omega,fun he=>by have:=lK Lb.o.1.own b he;omega⟩;have hsz8:(w7.alloc (.cells #[.map (some (nb k))] 136)).heap.size=w7.heap.size+1:=by simp
    clear hb78 wE Om hkk BL HSO Cn c7;go_wp2_with fail
    go_loopw [63] (fun jv wr2=>∃(j:Nat) (vj:Value),j≤L∧jv= .int .i64 j∧kT w.heap.size w8 w.heap.size v7 (T9++(eB ((16:Nat):Int) 2++rJ k x)++(eB (x.b.length:Int) 2++x.b)++eB (L:Int) 2++(x.names.take j).flatMap Jw) vj wr2) (fun jv _=>L-(intOf jv).toNat)
    case atStart=>exact⟨0,v7,by omega,rfl,by simpa using kT.refl Me.o.1⟩
    case round=>
     obtain⟨j,vj,hj,rfl,hmj⟩:=hrel;have HMJ:=acr hmj;have HBJ:=acr (uR.o.trans (hmj.low Me.o.1));clear hmj;by_cases hjL:j<L
     ·have hd2:decide ((j:Int)<(L:Int))=true:=by simpa using hjL
      obtain⟨en,hen⟩:∃en,x.names[j]? =some en:=⟨_,List.getElem?_eq_getElem (by have:=Ho.o;omega)⟩;obtain⟨nm,id⟩:=en;have Oo:(nm,id)∈x.names:=aat hen;have hgn:=aS uO O1.o.sorted Oo;have hg16:nm.length≤16:=lX (O1.o.good _ Oo);have hled:=HT.o.leads k x HX.o _ Oo;obtain⟨y,hy⟩:=aaf.1 hled.1;have hid2:0≤id∧id≤65535:=HT.o.ids _ _ hy;obtain⟨b8,o8,s,rfl,hS8,hb8w,hs,hsl,hc8c⟩:=Lc.o.cell j hjL;rw[List.getElem?_map,List.getElem?_map,hen]at hs;obtain rfl:strOf nm=s:=by simpa using hs
      have ho8:=Qn.o b8 (by omega);have cn:wr.cell? ⟨b8,o8+j,none⟩=some (.string (strOf nm)):=(aau (w:=w8) (w':=wr) (a:=⟨b8,o8+j,none⟩) (HMJ.o.other hb8w ho8.1 ho8.2).1).trans hc8c;obtain⟨cn9,wc,hrun,hbc,hltc,ZJ,hcells⟩:=JB wr nm (by omega);have hrow:ah (fun b=>b=wr.heap.size) wc (some ⟨wr.heap.size,0,none⟩) nm.length (nm.map bv):=hcells;have hWC:=HMJ.o.1.below hbc;have hxw:=HMJ.o.1.lt;have hlj:(T9++(eB ((16:Nat):Int) 2++rJ k x)++(eB (x.b.length:Int) 2++x.b)++eB (L:Int) 2++(x.names.take j).flatMap Jw).length≤85700000:=by
       have h9:=Cr (x.names.take j) fun e he=>lX (O1.o.good e (List.mem_of_mem_take he));rw[List.length_take]at h9;simp only[List.length_append,kY,bB]at hlb⊢;omega
      have HY3:=acr (yS hWC (some ⟨wr.heap.size,0,none⟩) nm.length cn9 nm hrow (fun b hb=>⟨by rw[hb];omega,fun he=>by have:=lK HMJ.o.1.own b he;omega⟩) ZJ (by omega) (by omega));have SE:=acr (HMJ.o.below hbc);have HBC:=acr (HBJ.o.trans (hbc.mono HBJ.o.size));have SA:=acr hgn;have HEN2:=acr hen;have hj0:(0:Int)≤(j:Int):=by omega
      have hL4:L≤65535:=by have:=Ho.o;omega
      have ew:IntKind.i64.wrap ((j:Int)+1)=(j:Int)+1:=aag _ (by omega);have hjL':(j:Int)<(L:Int):=by omega
      clear hen Oo hgn hled hy hs hsl hc8c hrow hWC hbc hcells;go_wp2_with fail;refine HY3.o.mono ?_;rintro e Oq ⟨rfl,v10,hm10⟩;have HM10:=acr (SE.o.trans hm10);have Mf:=acr (HBC.o.trans (hm10.low SE.o.1));have F10:=HF.o Oq Mf.o;have c7:=F10.c7;have e2:fu x (nb k)= .map (some (nb k)):=if_pos N9.o;rw[e2]at c7;have HN10:=acr (F10.names N9.o);have HG10:acs (aj nm (fA x)=some (.int .i64 id)):=by rw[lJ,SA.o];rfl
      have hnml:nm.length≤maxLen:=by unfold maxLen;omega
      have HS10:=acr (nJ HM10.o.1 id hid2.1 (by omega) (by simp only[List.length_append,kY,bB]at hlj⊢;omega));clear hm10 F10 e2 hrun;go_wp2_with (at_lookup;refine dJ iq rfl _ _ 136 3 rfl Tryz.underlying136 (Tryz.kN _) rfl HN10.o nm rfl hnml ?_;rw[HG10.o]);refine HS10.o.mono ?_;rintro e w11 ⟨rfl,v11,hm11⟩;have hM11:=HM10.o.trans hm11;have hby:T9++(eB ((16:Nat):Int) 2++rJ k x)++(eB (x.b.length:Int) 2++x.b)++eB (L:Int) 2++(x.names.take j).flatMap Jw++(eB (nm.length:Int) 2++nm)++eB id 2=T9++(eB ((16:Nat):Int) 2++rJ k x)++(eB (x.b.length:Int) 2++x.b)++eB (L:Int) 2++(x.names.take (j+1)).flatMap Jw:=by
       rw[abK,HEN2.o,aaG];simp[Jw,mG,TK]
      rw[hby]at hM11;have HM11:=acr hM11;clear hM11 hby hm11;go_wp2_with fail;go_roundw
      case rel=>exact⟨j+1,v11,by omega,by go_num,HM11.o⟩
      case measure=>
       simp only[intOf];omega
     ·have hd2:decide ((j:Int)<(L:Int))=false:=by simpa using hjL
      have hfin:T9++(eB ((16:Nat):Int) 2++rJ k x)++(eB (x.b.length:Int) 2++x.b)++eB (L:Int) 2++(x.names.take j).flatMap Jw=(eB (N:Int) 2++(T.take (i+1)).flatMap fun q=>ku q.1 q.2):=by
       rw[List.take_of_length_le (show x.names.length≤j by have:=Ho.o;omega),ZI.o,abK,HE.o,aaG,Ho.o];simp[ku,mG,kY,TK]
      have hMN:=Me.o.trans HMJ.o;rw[hfin]at hMN;have ZK:=acr hMN;clear hMN hfin;go_wp2_with fail;go_roundw
      case rel=>exact⟨i+1,vj,by omega,by go_num,ZK.o⟩
      case measure=>simp[intOf];omega
   ·have e2:fu x (nb k)= .map none:=if_neg hk2;have hnil:x.names=[]:=O1.o.file (O1.o.kind.resolve_right hk2);obtain rfl:L=0:=by rw[hL,hnil];rfl
    rw[e2]at c7;have HSH0:acs (Calls Tryz.prog 88 #[ptr w.heap.size,.int .i64 0] w6 (qZ w.heap.size w6 w.heap.size v6 (T9++(eB ((16:Nat):Int) 2++rJ k x)++(eB (x.b.length:Int) 2++x.b)++eB ((0:Nat):Int) 2))):=SH.o;clear F6 hk2 hL;go_wp2_with fail;refine HSH0.o.mono ?_;rintro e w7 ⟨rfl,v7,TA⟩;have E_:=sV.o.trans (TA.low TW.o.1);have Cn:=acr E_;have Lb:=acr (TW.o.trans TA);have c7:=(HF.o w7 E_).c7;have hkk:=Tryz.Oj none w7;have hso:=sorted_at k x w7 (uF.o.below E_ acu) HT.o HX.o (HFW.o _ _ HX.o);rw[e2]at c7 hso;rw[hnil]at hso;have HSO:=acr hso;have HNIL:=acr hnil;have Om:=wall w7 (.cells #[.map none] 136);clear TA E_ e2 hso SH HSH0 TW sV hnil;go_wp2_with (go_at_call 93;refine hkk.mono ?_;rintro e w' ⟨rfl,rfl⟩);refine HSO.o.mono ?_;rintro e w8 ⟨a8,c8,rfl,hc8,BL,wE⟩;have Me:=acr (Lb.o.below (Om.trans (wE.mono Om.size)));simp only[abg,List.length_nil]at hc8⊢;clear wE Om hkk BL HSO Cn c7;have hfin:T9++(eB ((16:Nat):Int) 2++rJ k x)++(eB (x.b.length:Int) 2++x.b)++eB ((0:Nat):Int) 2=(eB (N:Int) 2++(T.take (i+1)).flatMap fun q=>ku q.1 q.2):=by
     rw[ZI.o,abK,HE.o,aaG];simp[ku,mG,kY,HNIL.o,TK]
    have hMN:=Me.o;rw[hfin]at hMN;have ZK:=acr hMN;clear hMN hfin Me Lb;go_wp2_with fail
    go_loopw [63] (fun jv wr2=>jv= .int .i64 0∧wr2=w8) (fun jv _=>0)
    case atStart=>exact⟨rfl,rfl⟩
    case round=>
     obtain⟨rfl,rfl⟩:=hrel;go_wp2_with fail;go_roundw
     case rel=>exact⟨i+1,v7,by omega,by go_num,ZK.o⟩
     case measure=>simp[intOf];omega
  ·have hd1:decide ((i:Int)<(N:Int))=false:=by simpa using hin
   have hTi:(eB (N:Int) 2++(T.take i).flatMap fun q=>ku q.1 q.2)=dw T:=by
    rw[List.take_of_length_le (by have:=pq.o;omega),pq.o];rfl
   have hlT:(dw T).length≤100000000:=by
    have:=sW HT.o HFW.o T fun q hq=>hq;unfold dw;rw[List.length_append,bB];have:=pq.o;omega
   have HD:=acr (Dj HM.o.1 (by rw[hTi];exact hlT));rw[hTi]at HD;go_wp2_with fail;refine HD.o.mono ?_;rintro e w9 ⟨a9,n9,c9,rfl,hc9,hr9,eH⟩;have gQ:=acr hr9;have Dk:=acr (E9.o.trans (eH.mono E9.o.size));have hsr:=E9.o.size;clear hr9 eH;go_wp2_with fail;go_ret;exact⟨a9,n9,c9,rfl,hc9,gQ.o.mono fun b hb=>⟨by omega,hb.2⟩,Dk.o⟩
end
section
variable{W w:World}{o:Mark}{i p:Nat}{T:aA}
theorem Qo{S:Nat→Prop}(h:gZ o i w p T)(hM:Marks W o w)(hi:i≠0)(hT:dZ T)(a:Option Addr)(n c:Nat)(ls:List Nm)(hS:aT S w a n (ls.map strOf))(hc:n≤c)(mQ:n≤1000000):
  Calls Tryz.prog 152 #[ptr p,.slice a n c] w (lI o i w p (bL T ls).2 (.int .i64 (bL T ls).1)):=by
 obtain⟨g,D,mb,ib,nb,hA,hg,hD⟩:=h;exact(Qd a n c ls w hA hT hS hc mQ).mono fun e w' ht=>lI.of hM hi hg hD ht
theorem XA(h:gZ o i w p T)(hM:Marks W o w)(hi:i≠0)(id aF:Int)(hid:(Lit.int .i64 id).wf=true)(ht0:0≤aF)(ht1:aF≤18446744073709551615):
  Calls Tryz.prog 148 #[ptr p,.int .i64 id,.int .u64 aF] w (lI o i w p (dY T id aF).2 (.int .i64 (dY T id aF).1)):=by
 obtain⟨g,D,mb,ib,nb,hA,hg,hD⟩:=h;exact(Xe id aF w hA hid ht0 ht1).mono fun e w' ht=>lI.of hM hi hg hD ht
theorem XB(h:gZ o i w p T)(hM:Marks W o w)(hi:i≠0)(hT:OkW T)(id:Int)(hid:(Lit.int .i64 id).wf=true):
  Calls Tryz.prog 132 #[ptr p,.int .i64 id] w (lI o i w p (dO T id).2 (.int .i64 (dO T id).1)):=by
 obtain⟨g,D,mb,ib,nb,hA,hg,hD⟩:=h;exact(drop_at id hT w hA hid).mono fun e w' ht=>lI.of hM hi hg hD ht
theorem yX(h:gZ o i w p T)(hT:OkW T)(hf:∀k x,aj k T=some x→x.names.length≤65535):Calls Tryz.prog 34 #[ptr p] w (z_ w (dw T)):=by
 obtain⟨g,D,mb,ib,nb,hA,hg,hD⟩:=h;exact TY w hA hT hf
theorem om_ids(h:gZ o i w p T)(hT:OkW T):Calls Tryz.prog 89 #[ptr p] w (Oa w (kX T)):=by
 obtain⟨g,D,mb,ib,nb,hA,hg,hD⟩:=h;exact Ob w hA (by have:=hT.len;omega)
open Classical in
theorem iQ{W w w':World}{o:Mark}(hM:Marks W o w)(j:Nat)(G:Nat→Prop)(hG:∀b,G b→w.heap.size≤b∧b<w'.heap.size)(hb:Below w.heap.size w w'):∃o',Step o (fun i=>i=j) w o' w'∧(∀b,G b→o' b=j)∧(∀b,¬G b→o' b=o b):=by
 obtain⟨o',ho⟩:∃o':Mark,∀b,o' b=if G b then j else o b:=⟨_,fun _=>rfl⟩;refine⟨o',⟨fun b hb'=> ?_,fun b hb' hn=> ?_,(Keeps.below hb).mono fun x hx hx'=>absurd hx (by omega)⟩,fun b hb'=>by rw[ho,if_pos hb'],fun b hb'=>by rw[ho,if_neg hb']⟩
 ·rw[ho,if_neg (fun h=>by have:=hG b h;omega)]
 ·by_cases h:G b
  ·rw[ho,if_pos h];exact⟨rfl,(hG b h).2⟩
  ·rw[ho,if_neg h]at hn;have:=(hM.new b hn).2;omega
theorem XC(h:gZ o i w p T)(hM:Marks W o w)(hT:OkW T)(j:Nat):
  Calls Tryz.prog 86 #[ptr p] w fun e w'=>∃q o',e= .returned (ptr q)∧Step o (fun i=>i=j) w o' w'∧gZ o' j w' q T∧Below w.heap.size w w':=by
 obtain⟨g,D,mb,ib,nb,hA,hg,hD⟩:=h;refine(Xw w hA hT).mono ?_;rintro e w' ⟨q,g',mq,SB,nb',rfl,hA',hg',hb⟩;obtain⟨o',hs,h1,h2⟩:=iQ hM j (fun b=>g' b≠ .none) (fun b hb'=>⟨hg' b hb',hA'.low b hb'⟩) hb;refine⟨q,o',rfl,hs,⟨g',D,mq,SB,nb',hA',fun b hb'=>h1 b hb',fun b hb'=> ?_⟩,hb⟩;rw[hs.old b (hA.o_ b hb')];exact hD b hb'
end
theorem Mg(o:Mark):∀(n b:Nat),b<n→o b≤((List.range n).map o).sum
 |n+1,b,h=>by
  rw[List.range_succ,List.map_append,List.sum_append];simp only[List.map_cons,abg,List.sum_cons,List.sum_nil];by_cases hb:b=n
  ·rw[hb];omega
  ·have:=Mg o n b (by omega);omega
theorem xH{W w:World}{o:Mark}(hM:Marks W o w):∃j,j≠0∧∀b,o b≠j:=by
 refine⟨((List.range w.heap.size).map o).sum+1,by omega,fun b hb=> ?_⟩;have h1:=(hM.new b (by omega)).2;have:=Mg o w.heap.size b h1;omega
def bg(T:aA)(k:Nat):aA:=((kX T).take k).foldl (fun S id=>(dO S id).2) T
theorem jX(T:aA):bg T 0=T:=by unfold bg;rw[List.take_zero];rfl
theorem jw{T:aA}{k:Nat}{id:Int}(h:(kX T)[k]? =some id):bg T (k+1)=(dO (bg T k) id).2:=by
 unfold bg;obtain⟨hk,e⟩:=aac.1 h;rw[aae hk,List.foldl_append,e];rfl
theorem kP{T:aA}:bg T T.length=aV T:=by
 unfold bg aV;rw[List.take_of_length_le (by unfold kX;rw[List.length_map];omega)]
theorem OkW.bg{T:aA}(h:OkW T):∀k,OkW (bg T k)
 |0=>by rw[jX];exact h
 |k+1=>by
  cases hg:(kX T)[k]? with
  |some id=>rw[jw hg];exact(h.bg k).dO id
  |none=>
   have:Go.Proofs.YtjnhnlabpccgjaaGreatDoor.bg T (k+1)=Go.Proofs.YtjnhnlabpccgjaaGreatDoor.bg T k:=by
    have hl:=abO.1 hg;unfold Go.Proofs.YtjnhnlabpccgjaaGreatDoor.bg;rw[List.take_of_length_le hl,List.take_of_length_le (by omega)]
   rw[this];exact h.bg k
theorem dZ.bg{T:aA}(h:dZ T):∀k,dZ (bg T k)
 |0=>by rw[jX];exact h
 |k+1=>by
  cases hg:(kX T)[k]? with
  |some id=>rw[jw hg];exact(h.bg k).dO id
  |none=>
   have:Go.Proofs.YtjnhnlabpccgjaaGreatDoor.bg T (k+1)=Go.Proofs.YtjnhnlabpccgjaaGreatDoor.bg T k:=by
    have hl:=abO.1 hg;unfold Go.Proofs.YtjnhnlabpccgjaaGreatDoor.bg;rw[List.take_of_length_le hl,List.take_of_length_le (by omega)]
   rw[this];exact h.bg k
theorem fZ.bg{T:aA}(h:fZ T):∀k,fZ (bg T k)
 |0=>by rw[jX];exact h
 |k+1=>by
  cases hg:(kX T)[k]? with
  |some id=>rw[jw hg];exact(h.bg k).dO id
  |none=>
   have:Go.Proofs.YtjnhnlabpccgjaaGreatDoor.bg T (k+1)=Go.Proofs.YtjnhnlabpccgjaaGreatDoor.bg T k:=by
    have hl:=abO.1 hg;unfold Go.Proofs.YtjnhnlabpccgjaaGreatDoor.bg;rw[List.take_of_length_le hl,List.take_of_length_le (by omega)]
   rw[this];exact h.bg k
theorem dZ.aV{T:aA}(h:dZ T):dZ (aV T):=by rw[←kP];exact h.bg _
theorem OkW.aV{T:aA}(h:OkW T):OkW (aV T):=by rw[←kP];exact h.bg _
theorem fZ.aV{T:aA}(h:fZ T):fZ (aV T):=by rw[←kP];exact h.bg _
section
variable{W w:World}{o:Mark}{i p:Nat}{T:aA}
theorem Fa(h:gZ o i w p T)(hM:Marks W o w)(hT:OkW T)(j:Nat)(hj:j≠0)(hf:∀b,o b≠j):
  Calls Tryz.prog 61 #[ptr p] w fun e w'=>∃q o',e= .returned (ptr q)∧Step o (fun i=>i=j) w o' w'∧gZ o' j w' q (aV T)∧Below w.heap.size w w':=by
 have HCP:=acr (XC h hM hT j);have HM:=acr hM;have HT:=acr hT;have HJ:=acr hj;have HF:=acr hf;have hTl:=hT.len;clear h hM hT hj hf;go_enter Tryz.func61,Tryz.ntmps61;go_wp2_with fail;refine HCP.o.mono ?_;rintro e w1 ⟨q,o1,rfl,hs1,hT1,hb1⟩;have ko:=acr hs1;have nM:=acr (HM.o.step (fun e=>HJ.o e.symm) hs1);have HT1:=acr hT1;have SG:=acr (om_ids hT1 HT.o);clear hs1 hT1 hb1;go_wp2_with fail;refine SG.o.mono ?_;rintro e w2 ⟨a,cap,rfl,hlc,hrow,hb2⟩;have hll:(kX T).length=T.length:=by unfold kX;rw[List.length_map]
 rw[hll]at hlc hrow;rw[hll];obtain⟨tl,htl⟩:∃tl,tl=T.length:=⟨_,rfl⟩;rw[←htl]at hTl hlc hrow⊢;have Fb:=acr htl;have lg:=acr hrow;have HS2:=acr (ko.o.then_ HM.o (fun e=>HJ.o e.symm) hb2);have HT2:=acr (HT1.o.grow hb2);clear hb2 hrow htl hll;have HR2:=acr ((lg.o.Tv nM.o));clear lg;go_wp2_with fail
 go_loopw [4,12] (fun _ iv wr=>∃(k:Nat) (o2:Mark),iv= .int .i64 k∧k≤tl∧Step o (fun i=>i=j) w o2 wr∧gZ o2 j wr q (bg T k)∧ah (Free o2 wr) wr a tl ((kX T).map (Value.int .i64))) (fun _ iv _=>tl-(intOf iv).toNat)
 case atStart=>
  exact⟨0,o1,rfl,Nat.zero_le _,HS2.o,by rw[jX];exact HT2.o,HR2.o⟩
 case round=>
  obtain⟨k,o2,rfl,hk,hs,hTk,XD⟩:=hrel;have HS:=acr hs;have Mh:=acr hTk;have XE:=acr XD;clear hs hTk XD;by_cases hlt:k<tl
  ·have hd:decide ((k:Int)<(tl:Int))=true:=by simpa using hlt
   obtain⟨id,hid⟩:∃id,(kX T)[k]? =some id:=⟨(kX T)[k]'(by unfold kX;rw[List.length_map,←Fb.o];exact hlt),List.getElem?_eq_getElem _⟩;obtain⟨b,off,rfl,hfb,hbw,hc⟩:=XE.o.at_ (by omega);have hck:=hc k hlt;rw[List.getElem?_map,hid]at hck;have hcell:wr.cell? ⟨b,off+k,none⟩=some (.int .i64 id):=hck;have hwf:(Lit.int .i64 id).wf=true:=by
    have hm:=aat hid;unfold kX at hm;obtain⟨q',hq',rfl⟩:=List.mem_map.1 hm;have:=HT.o.ids q'.1 q'.2 (aS bY HT.o.sorted hq');simp[Lit.wf,IntKind.min,IntKind.max,IntKind.signed,IntKind.bits];omega
   have HDR:=acr (XB Mh.o (HM.o.step (fun e=>HJ.o e.symm) HS.o) HJ.o (HT.o.bg k) id hwf);have i0:(0:Int)≤(k:Int):=by omega
   have i1:(k:Int)<(tl:Int):=by omega
   have XF:=acr hid;clear hid hfb hbw hc hck hwf;go_wp2_with fail;refine HDR.o.mono ?_;rintro e w3 ⟨rfl,o3,hs3,Oe⟩;have Bb:=acr (HS.o.trans hs3);have HT3:=acr Oe;have HR3:=acr (XE.o.free (fun e=>HJ.o e.symm) hs3);clear hs3 Oe HDR;go_wp2_with fail;go_roundw
   case rel=>
    refine⟨k+1,o3,by go_num,by omega,Bb.o,?_,HR3.o⟩;rw[jw XF.o];exact HT3.o
   case measure=>simp[intOf];omega
  ·have hd:decide ((k:Int)<(tl:Int))=false:=by simp;omega
   obtain rfl:tl=k:=by omega
   go_wp2_with fail;go_ret;have h9:=Mh.o;rw[Fb.o,kP]at h9;refine⟨q,o2,rfl,HS.o,h9,?_⟩;exact HS.o.keep.gP acu fun x _ hx=>HF.o x hx
theorem rM(h:gZ o i w p T)(hM:Marks W o w)(hT:OkW T):
  Calls Tryz.prog 61 #[ptr p] w fun e w'=>∃q,e= .returned (ptr q)∧gZ o 0 w' q (aV T)∧Below w.heap.size w w':=by
 obtain⟨j,hj,hf⟩:=xH hM;refine(Fa h hM hT j hj hf).mono ?_;rintro e w' ⟨q,o',rfl,hs,hT',hb⟩;refine⟨q,rfl,hT'.remark (fun b hb' he=> ?_) (fun b hb' he=> ?_),hb⟩
 ·by_cases hlt:b<w.heap.size
  ·rw[hs.old b hlt]at he;exact absurd he (hf b)
  ·exact Decidable.byContradiction fun h0=>by have:=(hM.new b h0).2;omega
 ·by_cases hlt:b<w.heap.size
  ·rw[hs.old b hlt]at he;exact he
  ·exact Decidable.byContradiction fun h0=>by have:=(hM.new b h0).2;omega
end
section
variable{W w:World}{o:Mark}{i s:Nat}{S:lN}
theorem jS.grow{K:aA→Prop}(h:jS K o i w s S){w':World}(hM:Marks W o w)(hb:Below w.heap.size w w'):jS K o i w' s S:=
 h.step (I:=fun _=>False) (fun h=>h) (fun h=>h) (Step.grow hM hb)
theorem jS.lt{K:aA→Prop}(h:jS K o i w s S):s<w.heap.size:=by
 obtain⟨v,la,lc,vals,h1,h2,h3,h4,h5,h6,h7,h8⟩:=h.at_;exact h3
theorem Qp(hM:Marks W o w)(j:Nat)(hj:j≠0):Calls Tryz.prog 21 #[] w fun e w'=>∃s o',e= .returned (ptr s)∧Step o (fun k=>k=j) w o' w'∧LZ o' j w' s Jy∧Below w.heap.size w w':=by
 have HM:=acr hM;clear hM;go_enter Tryz.func21,Tryz.ntmps21;go_wp2;go_ret;obtain⟨o',hs,h1,h2⟩:=iQ HM.o j (fun b=>b=w.heap.size) (w':=w.alloc (.cells #[.slice none 0 0,.int .i64 1,.slice none 0 0] 109)) (fun b hb=>by subst hb;simp) (wall w _);refine⟨w.heap.size,o',rfl,hs,⟨.slice none 0 0,none,0,[],(MapKept.heap_alloc w _).1,h1 _ rfl,by simp,⟨rfl,.inl ⟨rfl,rfl⟩⟩,fun b hb=>by simp[Value.ownBlock]at hb,rfl,Nat.le_refl _,ah.nil _ _ _⟩,wall w _⟩
def JC(l:List iw)(id v:Int):Prop:=
 (v= -1∧∀x∈l,x.id≠id)∨∃(k:Nat) (x:iw),v=k∧l[k]? =some x∧x.id=id∧∀x'∈l.take k,x'.id≠id
end
structure FW where
 wr:Bool
 id:Int
 b:List UInt8
structure dQ where
 t:aA
 s:lN
 now:Int
 fds:Nat→Option FW
def Bg:dQ:=⟨wO,Jy,0,fun _=>none⟩
def BO(o:Mark)(w:World)(v:Value):Option FW→Prop
 |none=>v= .pointer none
 |some f=>∃q a c,v=ptr q∧o q=0∧q<w.heap.size∧w.heap[q]? =some (.cells #[.bool f.wr,.int .i64 f.id,.slice a f.b.length c] 186 (0,0))∧f.b.length≤c∧ah (Free o w) w a f.b.length (f.b.map bv)
def EK(t s:Nat)(now:Int)(v:Nat→Value):Array Value:= #[ptr t,ptr s,.int .u64 now,v 0,v 1,v 2,v 3,v 4,v 5,v 6,v 7]
structure eG(o:Mark)(i j k:Nat)(w:World)(p:Nat)(M:dQ):Prop where
 at_:∃t s v,w.heap[p]? =some (.cells (EK t s M.now v) 57 (0,0))∧LZ o i w s M.s∧gZ o j w t M.t∧∀n,n<8→BO o w (v n) (M.fds n)
 own:o p=k
 low:p<w.heap.size
theorem BO.step{o o':Mark}{I:Nat→Prop}{w w':World}{v:Value}{f:Option FW}(h:BO o w v f)(hi:¬I 0)(hs:Step o I w o' w'):BO o' w' v f:=by
 cases f with
 |none=>exact h
 |some f=>
  obtain⟨q,a,c,h1,h2,h3,h4,h5,h6⟩:=h;exact⟨q,a,c,h1,(hs.old q h3).trans h2,Nat.lt_of_lt_of_le h3 hs.keep.size,(hs.block h3 (by rw[h2];exact hi)).trans h4,h5,h6.free hi hs⟩
theorem BO.grow{o:Mark}{w w':World}{v:Value}{f:Option FW}(h:BO o w v f)(hb:Below w.heap.size w w'):BO o w' v f:=by
 cases f with
 |none=>exact h
 |some f=>
  obtain⟨q,a,c,h1,h2,h3,h4,h5,h6⟩:=h;exact⟨q,a,c,h1,h2,Nat.lt_of_lt_of_le h3 hb.size,(hb.block q h3).trans h4,h5,h6.move hb.size fun b hb' hbw=>⟨⟨hb'.1,Nat.lt_of_lt_of_le hb'.2 hb.size⟩,hb.block b hbw⟩⟩
theorem eG.step{o o':Mark}{I:Nat→Prop}{i j k:Nat}{w w':World}{p:Nat}{M:dQ}(h:eG o i j k w p M)(h0:¬I 0)(hi:¬I i)(hj:¬I j)(hk:¬I k)(hs:Step o I w o' w'):eG o' i j k w' p M:=by
 obtain⟨t,s,v,h1,h2,h3,h4⟩:=h.at_;exact⟨⟨t,s,v,(hs.block h.low (by rw[h.own];exact hk)).trans h1,h2.step h0 hi hs,h3.step h0 hj hs,fun n hn=>(h4 n hn).step h0 hs⟩,(hs.old p h.low).trans h.own,Nat.lt_of_lt_of_le h.low hs.keep.size⟩
theorem eG.grow{W:World}{o:Mark}{i j k:Nat}{w w':World}{p:Nat}{M:dQ}(h:eG o i j k w p M)(hM:Marks W o w)(hb:Below w.heap.size w w'):eG o i j k w' p M:=
 h.step (I:=fun _=>False) (fun e=>e) (fun e=>e) (fun e=>e) (fun e=>e) (Step.grow hM hb)
theorem lq{w:World}{p t s:Nat}{now:Int}{v:Nat→Value}(h:w.heap[p]? =some (.cells (EK t s now v) 57 (0,0))):w.cell? ⟨p,0,none⟩=some (ptr t)∧w.cell? ⟨p,1,none⟩=some (ptr s)∧w.cell? ⟨p,2,none⟩=some (.int .u64 now)∧(∀n,n<8→w.cell? ⟨p,3+n,none⟩=some (v n))∧∀j,w.frozen? ⟨p,j,none⟩=false:=by
 refine⟨?_,?_,?_,fun n hn=> ?_,fun j=> ?_⟩
 ·simp[World.cell?,h,EK]
 ·simp[World.cell?,h,EK]
 ·simp[World.cell?,h,EK]
 ·rcases (show n=0∨n=1∨n=2∨n=3∨n=4∨n=5∨n=6∨n=7 by omega)with rfl|rfl|rfl|rfl|rfl|rfl|rfl|rfl<;>simp[World.cell?,h,EK]
 ·simp[World.frozen?,h]
theorem st_put(t s:Nat)(now:Int)(v:Nat→Value)(n:Nat)(hn:n<8)(x:Value):(EK t s now v).setIfInBounds (3+n) x=EK t s now (fun m=>if m=n then x else v m):=by
 rcases (show n=0∨n=1∨n=2∨n=3∨n=4∨n=5∨n=6∨n=7 by omega)with rfl|rfl|rfl|rfl|rfl|rfl|rfl|rfl<;>rfl
theorem st_now(t s:Nat)(now u:Int)(v:Nat→Value):(EK t s now v).setIfInBounds 2 (.int .u64 u)=EK t s u v:=rfl
def jF(M:dQ)(n:Int)(wr:Bool):Option FW:=if 0≤n∧n<8 then(match M.fds n.toNat with|some f=>if f.wr=wr then some f else none|none=>none)else none
def JD(M:dQ)(v:Int):Prop:=(v= -1∧∀n,n<8→M.fds n≠none)∨∃n:Nat,n<8∧v=n∧M.fds n=none∧∀m,m<n→M.fds m≠none
end Go.Proofs.YtjnhnlabpccgjaaGreatDoor
