/- tree -/
import Derived.Test.YtmflaonodghbcaaGreatDoorM24
import Derived.Test.YtmflaonodghbcaaGreatDoorM14
import Derived.Test.YtmflaonodghbcaaGreatDoorM25
import Derived.Test.YtmflaonodghbcaaGreatDoorM04
import Derived.Shelf.SlMaps.Clone
import Derived.WalkLawsBesides
import Derived.Test.YtmflaonodghbcaaGreatDoorM10
import Derived.Test.YtmflaonodghbcaaGreatDoorM15
import Derived.Test.YtmflaonodghbcaaGreatDoorM18
import Derived.Test.YtmflaonodghbcaaGreatDoorM16
import Derived.Test.YtmflaonodghbcaaGreatDoorM21
import Derived.Test.YtmflaonodghbcaaGreatDoorM19
set_option maxRecDepth 100000
set_option maxHeartbeats 64000000
set_option linter.all false
namespace Go.Proofs.YtmflaonodghbcaaGreatDoor
open Go.ChangeShapes Go.WideShapes Go.ChangeAt Go.RowKit
theorem Lh(b:Nat)(l:List (Nm×Value))(w:World)(hM:MapAt fT w b l):Calls Tryz.prog 112 #[.map (some b)] w fun e w'=>e= .returned (.map (some w.heap.size))∧MapAt fT w' w.heap.size l∧Below w.heap.size w w'∧w.heap.size<w'.heap.size:=
 (AnyW.maps_Clone_owns Tryz.Wo 9 mV b l.length (wP fT l) w hM).mono fun e w' h=>⟨h.1,MapAt.vW h.2.1,h.2.2.2,h.2.1.lt⟩
theorem Od(w:World):Calls Tryz.prog 112 #[.map none] w fun e w'=>e= .returned (.map none)∧w'=w:=AnyW.maps_Clone_nil Tryz.Wo w
def ZP(w:World)(x:eG)(e:Ending)(w':World):Prop:=∃n,e= .returned (eu x n)∧(x.kind=2→MapAt fT w' n (dJ x)∧w.heap.size≤n∧n<w'.heap.size)∧Below w.heap.size w w'
theorem Oe{w:World}{x:eG}{nb:Nat}(hM:x.kind=2→MapAt fT w nb (dJ x)):Calls Tryz.prog 112 #[eu x nb] w (ZP w x):=by
 by_cases hk:x.kind=2
 ·have e1:eu x nb= .map (some nb):=if_pos hk;rw[e1];refine(Lh nb (dJ x) w (hM hk)).mono ?_;rintro e w' ⟨rfl,h1,h2,h3⟩;exact⟨w.heap.size,by unfold eu;rw[if_pos hk],fun _=>⟨h1,Nat.le_refl _,h3⟩,h2⟩
 ·have e1:eu x nb= .map none:=if_neg hk;rw[e1];refine(Od w).mono ?_;rintro e w' ⟨rfl,rfl⟩;exact⟨0,by unfold eu;rw[if_neg hk],fun h=>absurd h hk,Below.refl _ _⟩
section
variable{g:Nat→Own}{D:Nat→Prop}{p mb:Nat}{ib nb:Int→Nat}{T:aI}
def ZQ(g:Nat→Own)(D:Nat→Prop)(w:World)(mb:Nat)(ib:Int→Nat)(T:aI)(q mq r:Nat)(wr:World):Prop:=
 ∃(left:Int→Bool) (cnt:Nat) (g':Nat→Own) (Qq nb':Int→Nat),eF aU wr mb r (T.map fun q=>(q.1,ptr (ib q.1))) left cnt∧aM g' D wr q mq Qq nb' (qO left T)∧(∀b,g' b≠ .none→w.heap.size≤b∧b≠r)∧Below w.heap.size w wr
def CopyAt(D:Nat→Prop)(w:World)(T:aI)(e:Ending)(w':World):Prop:=
 ∃q g' mq Qq nb',e= .returned (ptr q)∧aM g' D w' q mq Qq nb' T∧(∀b,g' b≠ .none→w.heap.size≤b)∧Below w.heap.size w w'
theorem Og{w0:World}{q mq:Nat}(hq:w0.heap[q]? =some (.cells #[.map (some mq)] 188 (0,0)))(hm:MapAt aU w0 mq [])(hne:q≠mq)(hD:∀b,D b→b<w0.heap.size∧b≠q∧b≠mq):
  aM (fun b=>if b=q then .head else if b=mq then .items else .none) D w0 q mq (fun _=>0) (fun _=>0) []:=by
 refine⟨hq,hm,fun k x hx=>(by simp[aj]at hx),if_pos rfl,by rw[if_neg (aaP hne),if_pos rfl],fun k x hx=>(by simp[aj]at hx),fun k x hx=>(by simp[aj]at hx),fun b hb=> ?_,fun b hb=> ?_,fun b hb=>(hD b hb).1⟩
 ·rw[if_neg (hD b hb).2.1,if_neg (hD b hb).2.2]
 ·by_cases h1:b=q
  ·rw[h1];exact(uh.1 hq).1
  ·by_cases h2:b=mq
   ·rw[h2];exact hm.lt
   ·rw[if_neg h1,if_neg h2]at hb;exact absurd rfl hb
theorem QO(w:World)(h:aM g D w p mb ib nb T)(hT:OkW T):Calls Tryz.prog 43 #[ptr p] w (CopyAt D w T):=by
 have hmm:= @abT Tryz.prog;have HH:=ab9 h;have HT:=ab9 hT;obtain⟨c0,hpw,hmw⟩:=h.cell;have HB2:=ab9 ((wall w (.map #[] 0)).trans ((wall (w.alloc (.map #[] 0)) (.cells #[.map (some w.heap.size)] 188)).mono (by simp)));have lT:=ab9 ((h.below HB2.o ace).map);have c2:=(HB2.o.cell (p:=⟨p,0,none⟩) hpw).trans c0;clear h hT;go_enter Tryz.func43,Tryz.ntmps43;go_wp2_with (at_range;refine lY aU rfl _ 186 189 rfl Tryz.underlying186 rfl lT.o ?_;intro w0 hR0 hB0 hs0)
 go_frame
 have HQ2:=ab9 (lq (w:=w.alloc (.map #[] 0)) (v:= .map (some w.heap.size)) (t:=188));have hqb:((w.alloc (.map #[] 0)).alloc (.cells #[.map (some w.heap.size)] 188)).heap[w.heap.size+1]? =some (.cells #[.map (some w.heap.size)] 188 (0,0)):=by
  have:=(MapKept.heap_alloc (w.alloc (.map #[] 0)) (.cells #[.map (some w.heap.size)] 188)).1;simpa using this
 have hmb:MapAt aU ((w.alloc (.map #[] 0)).alloc (.cells #[.map (some w.heap.size)] 188)) w.heap.size []:=(MapAt.made (F:=aU) w).kept ((MapKept.heap_alloc (w.alloc (.map #[] 0)) _).2 w.heap.size (by simp));simp only[Pd]at hR0 hB0 hs0;simp only[Pd];have hA0:aM (fun b=>if b=w.heap.size+1 then .head else if b=w.heap.size then .items else .none) D w0 (w.heap.size+1) w.heap.size (fun _=>0) (fun _=>0) []:=by
  refine Og ((hB0.block _ (by omega)).trans hqb) (hmb.kept (hB0.block _ (by omega))) (by omega) fun b hb=> ?_;have:=HH.o.oN b hb;omega
 go_loopw [4,5] (fun _ _ wr=>ZQ g D w mb ib T (w.heap.size+1) w.heap.size (w.heap.size+2) wr) (fun _ _ wr=>wr.rangeLeft mb (w.heap.size+2))
 case atStart=>
  refine⟨_,_,(fun b=>if b=w.heap.size+1 then .head else if b=w.heap.size then .items else .none),fun _=>0,fun _=>0,hR0,?_,?_,HB2.o.trans (hB0.mono (by omega))⟩
  ·rw[Lg (fun q hq=>by rw[dH,bI dU HT.o.sorted hq];rfl)];exact hA0
  ·intro b hb;by_cases h1:b=w.heap.size+1
   ·omega
   ·by_cases h2:b=w.heap.size
    ·omega
    ·simp only[if_neg h1,if_neg h2]at hb;exact absurd rfl hb
 case round=>
  obtain⟨left,cnt,g1,ib1,nb1,hR,hA,hg1,hB⟩:=hrel;have HA1:=ab9 hA;have HR:=ab9 hR;have HB:=ab9 hB;have HG1:=ab9 hg1;clear hR hA hB hg1;go_wp2_with (first|(at_next;refine nP aU rfl _ rfl rfl HR.o ?_ ?_))
  ·intro hdone;have Gh:acd (qO left T=T):=Sw hdone;clear hdone;go_wp2;go_ret;have h9:=HA1.o;rw[Gh.o]at h9;exact⟨_,g1,_,ib1,nb1,rfl,h9,fun b hb=>(HG1.o b hb).1,HB.o⟩
  ·intro k v w3 cnt1 Vo hleft hg2 kR hlt hK1 hs1 hen;rw[dH]at hg2;cases hy:aj k T with
   |none=>rw[hy]at hg2;cases hg2
   |some x=>
    rw[hy]at hg2;cases hg2;have hrl:=HR.o.lt;have hB3:Below w.heap.size w w3:=HB.o.trans (hK1.bQ HB.o.size fun b hb (hbr:b=w.heap.size+2)=>by omega);have hAs:=HH.o.below hB3 ace;have hA3:aM g1 D w3 (w.heap.size+1) w.heap.size ib1 nb1 (qO left T):=HA1.o.keeps hK1 fun b hb (hbr:b=w.heap.size+2)=>by
     rcases hb with hb|hb
     ·exact(HG1.o b hb).2 hbr
     ·have:=HH.o.oN b hb;omega
    obtain⟨a,c,hcb,hcap,hrow⟩:=(hAs.item k x hy).cells;have hnm:=(hAs.item k x hy).names;have hiw:ib k<w3.heap.size:=(uh.1 hcb).1;have hqw:=hA3.cell.2.1;have hq0:=hA3.cell.1;have hR1w:=kR.lt;have HST:acd (∀w5 v,Below w3.heap.size w3 w5→∃w6,(Instr.mapUpdate 186 (.map (some w.heap.size)) (.int .i64 k) v).run Tryz.prog w5= .ok () w6∧MapAt aU w6 w.heap.size (bX aU.lt k v ((qO left T).map fun q=>(q.1,ptr (ib1 q.1))))∧w5.mapTurned w6 w.heap.size):=fun w5 v hb=>by
     refine(hA3.map.kept (hb.block _ hA3.cell.2.2)).oZ aU Tryz.underlying186 ?_ k v Vo;have h1:(qO left T).length≤T.length:=abK _ _;have h2:=HT.o.len;rw[List.length_map];unfold maxLen;omega
    have GL:acd (∀w',Below w3.heap.size w3 w'→w'.cell? ⟨w.heap.size+1,0,none⟩=some (.map (some w.heap.size))∧w'.cell? ⟨ib k,0,none⟩=some (.int .i64 k)∧w'.cell? ⟨ib k,1,none⟩=some (.int .i64 x.kind)∧w'.cell? ⟨ib k,2,none⟩=some (.int .i64 x.links)∧w'.cell? ⟨ib k,3,none⟩=some (.int .i64 x.b.length)∧w'.cell? ⟨ib k,4,none⟩=some (.int .u64 x.aT)∧w'.cell? ⟨ib k,5,none⟩=some (.bool x.closed)∧w'.cell? ⟨ib k,6,none⟩=some (.slice a x.b.length c)∧w'.cell? ⟨ib k,7,none⟩=some (eu x (nb k))):=fun w' hb=>by
     refine⟨(hb.cell (p:=⟨w.heap.size+1,0,none⟩) hqw).trans hq0,?_,?_,?_,?_,?_,?_,?_,?_⟩
     ·exact(hb.cell (p:=⟨ib k,0,none⟩) hiw).trans (bY hcb 0)
     ·exact(hb.cell (p:=⟨ib k,1,none⟩) hiw).trans (bY hcb 1)
     ·exact(hb.cell (p:=⟨ib k,2,none⟩) hiw).trans (bY hcb 2)
     ·exact(hb.cell (p:=⟨ib k,3,none⟩) hiw).trans (bY hcb 3)
     ·exact(hb.cell (p:=⟨ib k,4,none⟩) hiw).trans (bY hcb 4)
     ·exact(hb.cell (p:=⟨ib k,5,none⟩) hiw).trans (bY hcb 5)
     ·exact(hb.cell (p:=⟨ib k,6,none⟩) hiw).trans (bY hcb 6)
     ·exact(hb.cell (p:=⟨ib k,7,none⟩) hiw).trans (bY hcb 7)
    have Ur:=ab9 (Oe (w:=w3.drew) (x:=x) (nb:=nb k) fun hk=>(hnm hk).kept rfl);have Vf:=ab9 hA3;have HY:=ab9 hy;have HR1:=ab9 kR;have FZ:=ab9 hlt;have HB3:=ab9 hB3;have gN:=ab9 hrow;have HCAP:=ab9 hcap;have Dc:=ab9 hleft;have e3:aU.val k= .int .i64 k:=rfl;rw[e3]at hen⊢;obtain⟨nl,hnl⟩:∃nl,nl=x.b.length:=⟨_,rfl⟩;obtain⟨nv,hnv⟩:∃nv,nv=eu x (nb k):=⟨_,rfl⟩;rw[←hnl,←hnv]at GL;rw[←hnv]at Ur;have HNL:=ab9 hnl;clear hAs hA3 hcb hcap hrow hnm hy kR hlt hK1 hB3 hleft e3 hnl hnv;go_wp2_with fail;refine Cv 20 ((fun w'=>w'.cell? ⟨w.heap.size+1,0,none⟩=some (.map (some w.heap.size))∧w'.cell? ⟨ib k,0,none⟩=some (.int .i64 k)∧w'.cell? ⟨ib k,1,none⟩=some (.int .i64 x.kind)∧w'.cell? ⟨ib k,2,none⟩=some (.int .i64 x.links)∧w'.cell? ⟨ib k,3,none⟩=some (.int .i64 nl)∧w'.cell? ⟨ib k,4,none⟩=some (.int .u64 x.aT)∧w'.cell? ⟨ib k,5,none⟩=some (.bool x.closed)∧w'.cell? ⟨ib k,6,none⟩=some (.slice a nl c)∧w'.cell? ⟨ib k,7,none⟩=some nv)) ?_ fun hS=> ?_
    ·exact GL.o _ acf.drew
    refine aY 0 hS ?_;refine aY 1 hS ?_;refine aY 2 hS ?_;refine aY 3 hS ?_;refine aY 4 hS ?_;refine aY 5 hS ?_;refine aY 6 hS ?_;refine aY 7 hS ?_;refine aY 8 hS ?_;refine aY 9 hS ?_;refine aY 10 hS ?_;refine aY 11 hS ?_;refine aY 12 hS ?_;refine aY 13 hS ?_;refine aY 14 hS ?_;refine aY 15 hS ?_;refine aY 16 hS ?_;refine dW 17 fun K hK=> ?_;go_simp;refine Ur.o.mono ?_;rintro e w4 ⟨n,rfl,hn4,hb4⟩;have ZR:Below w3.heap.size w3 w4:=acf.drew.trans hb4;obtain⟨mv,hmv⟩:∃mv,eu x n= .map mv:=by unfold eu;split<;>exact⟨_,rfl⟩
    rw[hmv];have HMV:=ab9 hmv;have Wp:=ab9 hn4;clear hmv hn4 hb4;go_wp2_with fail;refine dK hK (GL.o _ ZR) fun hS=> ?_;clear hK K;refine aY 18 hS ?_;refine dW 19 fun K hK=> ?_;go_simp;have Sy:Below w3.heap.size w3 (w4.alloc (.cells #[.int .i64 k,.int .i64 x.kind,.int .i64 x.links,.int .i64 nl,.int .u64 x.aT,.bool x.closed,.slice a nl c,.map mv] 192)):=ZR.trans ((wall w4 _).mono ZR.size);have hci:(w4.alloc (.cells #[.int .i64 k,.int .i64 x.kind,.int .i64 x.links,.int .i64 nl,.int .u64 x.aT,.bool x.closed,.slice a nl c,.map mv] 192)).heap[w4.heap.size]? =some (.cells (iq k x a c (if x.kind=2 then n else w4.heap.size+1)) 192 (0,0)):=by
     rw[(MapKept.heap_alloc w4 _).1];unfold iq;have e9:eu x (if x.kind=2 then n else w4.heap.size+1)= .map mv:=by
      have:=HMV.o;unfold eu at this⊢;by_cases hk:x.kind=2
      ·rw[if_pos hk]at this⊢;rw[if_pos hk];exact this
      ·rw[if_neg hk]at this⊢;exact this
     rw[e9,←HNL.o]
    have hs5:(w4.alloc (.cells #[.int .i64 k,.int .i64 x.kind,.int .i64 x.links,.int .i64 nl,.int .u64 x.aT,.bool x.closed,.slice a nl c,.map mv] 192)).heap.size=w4.heap.size+1:=by simp
    have hb45:=wall w4 (.cells #[.int .i64 k,.int .i64 x.kind,.int .i64 x.links,.int .i64 nl,.int .u64 x.aT,.bool x.closed,.slice a nl c,.map mv] 192);refine dK hK (GL.o _ Sy) fun hS=> ?_;clear hK K;generalize (w4.alloc (.cells #[.int .i64 k,.int .i64 x.kind,.int .i64 x.links,.int .i64 nl,.int .u64 x.aT,.bool x.closed,.slice a nl c,.map mv] 192))=w5 at*;refine dW 20 fun K hK=> ?_;go_simp;obtain⟨w6,hrun6,ZT,ZU⟩:=HST.o w5 (ptr w4.heap.size) Sy;rw[hrun6];go_simp;refine sN hK ?_;clear hS hK K;have Ak:=ab9 ZT;have HT6:=ab9 ZU;have Sz:=ab9 hb45;have HCI:=ab9 hci;have hs6:=fI ZU;clear ZT ZU hrun6 hci hb45;go_wp2_with fail;have hs4:=ZR.size;have hnew:∀b,b<w3.heap.size→b≠w.heap.size→w6.heap[b]? =w3.heap[b]? :=fun b hb hn=>(cK HT6.o b (by omega) hn).trans (Sy.block b hb);have hR6:eF aU w6 mb (w.heap.size+2) (T.map fun q=>(q.1,ptr (ib q.1))) _ cnt1:=HR1.o.kept (hnew mb hR1w.1 (by omega)) (hnew _ hR1w.2.1 (by omega));go_roundw
    case rel=>
     have hi9:iV D w6 k w4.heap.size (if x.kind=2 then n else w4.heap.size+1) x:=by
      refine⟨⟨a,c,(cK HT6.o _ (by omega) (by omega)).trans HCI.o,HCAP.o,gN.o.move (by omega) fun b hb hbw=>⟨hb,hnew b hbw (by have:=HH.o.oN b hb;omega)⟩⟩,fun hk=> ?_⟩;obtain⟨k1,k2,k3⟩:=Wp.o hk;rw[if_pos hk];have k2':w3.heap.size≤n:=k2;exact(k1.kept (Sz.o.block n k3)).kept (cK HT6.o n (by omega) (by omega))
     have hT9:=Vf.o.addD (i:=w4.heap.size) (n:=if x.kind=2 then n else w4.heap.size+1) (k:=k) (x:=x) (w':=w6) hs4 (by
      by_cases hk:x.kind=2
      ·rw[if_pos hk];exact(Wp.o hk).2.1
      ·rw[if_neg hk];omega) (by
      by_cases hk:x.kind=2
      ·rw[if_pos hk];have:=(Wp.o hk).2.2;omega
      ·rw[if_neg hk];omega) (by omega) (fun hk=>by
      rw[if_pos hk];have:=(Wp.o hk).2.2;omega) (by rw[Ba,if_pos Dc.o]) Ak.o (by omega) hnew hi9
     rw[Ob HT.o.sorted HY.o Dc.o]at hT9;refine⟨_,cnt1,_,_,_,hR6,hT9,?_,?_⟩
     ·intro b hb;by_cases h1:b=w4.heap.size
      ·omega
      ·simp only[if_neg h1]at hb;by_cases h2:b=(if x.kind=2 then n else w4.heap.size+1)∧x.kind=2
       ·have h3:=Wp.o h2.2;rw[if_pos h2.2]at h2;have h4:w3.heap.size≤n:=h3.2.1;omega
       ·rw[if_neg h2]at hb;exact HG1.o b hb
     ·refine HB3.o.trans ⟨?_,?_,?_,by omega,fun b hb=>hnew b (by have:=HB3.o.size;omega) (by omega)⟩
      ·exact(gD HT6.o).os.trans Sy.os
      ·exact(gD HT6.o).tape.trans Sy.tape
      ·exact(gD HT6.o).output.trans Sy.output
    case measure=>
     rw[hR6.measure,HR.o.measure];exact FZ.o
end
section
variable{g:Nat→Own}{D:Nat→Prop}{p mb:Nat}{ib nb:Int→Nat}{T:aI}
end
section
variable{g:Nat→Own}{D:Nat→Prop}{p mb:Nat}{ib nb:Int→Nat}{T:aI}
theorem kD.other{B x:Nat}{w w':World}{v v':Value}{bs:List UInt8}(h:kD B w x v bs v' w'){b:Nat}(hb:b<w.heap.size)(hx:b≠x)(hv:v.ownBlock≠some b):w'.heap[b]? =w.heap[b]? ∧v'.ownBlock≠some b:=
 ⟨h.2.1.block b hb fun hf=>hf.elim hx hv,fun he=>by
  rcases h.2.2 b he with h1|h1
  ·exact hv h1
  ·omega⟩
theorem Li(w:World)(l:List UInt8)(hl:l.length≤1000):∃cap w1,(convert 9 32 (.string (strOf l))).run Tryz.prog w= .ok (.slice (some ⟨w.heap.size,0,none⟩) l.length cap) w1∧Below w.heap.size w w1∧w.heap.size<w1.heap.size∧l.length≤cap∧ah (fun b=>b=w.heap.size) w1 (some ⟨w.heap.size,0,none⟩) l.length (l.map bv):=by
 have h:=Lib.run_convert_string_bytes (P:=Tryz.prog) w 9 32 5 (strOf l) abj Tryz.underlying32 abh;rw[iJ]at h;refine⟨_,_,h,⟨rfl,rfl,rfl,by rw[Lib.bytesWorld_size];omega,fun k hk=>Lib.bytesWorld_at_old w _ _ k hk⟩,by rw[Lib.bytesWorld_size];omega,grownCap_ge _ _ _ _,⟨by simp,by unfold maxLen;omega,fun h0=>⟨w.heap.size,0,rfl,rfl,by rw[Lib.bytesWorld_size];omega,fun i hi=> ?_⟩⟩⟩;rw[Nat.zero_add,Lib.bytesWorld_cell w _ _ i (by rw[iJ];exact hi)];have e1:(strOf l).data.toList=l:=rfl;rw[e1,List.getElem?_map,List.getElem?_eq_getElem hi,aaX,List.getElem?_eq_getElem hi];rfl
structure ItemF(w:World)(D:Nat→Prop)(p mb:Nat)(ib nb:Nat)(k:Int)(x:eG)(T':List (Int×Value))(a:Option Addr)(c:Nat):Prop where
 c0:w.cell? ⟨ib,0,none⟩=some (.int .i64 k)
 c1:w.cell? ⟨ib,1,none⟩=some (.int .i64 x.kind)
 c2:w.cell? ⟨ib,2,none⟩=some (.int .i64 x.links)
 c3:w.cell? ⟨ib,3,none⟩=some (.int .i64 x.b.length)
 c4:w.cell? ⟨ib,4,none⟩=some (.int .u64 x.aT)
 c5:w.cell? ⟨ib,5,none⟩=some (.bool x.closed)
 c6:w.cell? ⟨ib,6,none⟩=some (.slice a x.b.length c)
 c7:w.cell? ⟨ib,7,none⟩=some (eu x nb)
 row:ah D w a x.b.length (x.b.map bv)
 head:w.cell? ⟨p,0,none⟩=some (.map (some mb))
 map:MapAt aU w mb T'
 names:x.kind=2→MapAt fT w nb (dJ x)
theorem Oh{w:World}(h:aM g D w p mb ib nb T){k:Int}{x:eG}(hx:aj k T=some x):∃a c,x.b.length≤c∧∀w',Below w.heap.size w w'→ItemF w' D p mb (ib k) (nb k) k x (T.map fun q=>(q.1,ptr (ib q.1))) a c:=by
 obtain⟨⟨a,c,hblk,hcap,hrow⟩,_⟩:=h.item k x hx;have hiw:=(uh.1 hblk).1;refine⟨a,c,hcap.1,fun w' hb=> ?_⟩;have h':=h.below hb ace;obtain⟨c0,c1,c2,c3,c4,c5,c7,_⟩:=(h'.item k x hx).cell;refine⟨c0,c1,c2,c3,c4,c5,?_,c7,hrow.below hb ace,h'.cell.1,h'.map,fun hk=>(h'.item k x hx).names hk⟩;rw[hb.cell (p:=⟨ib k,6,none⟩) hiw];simp only[World.cell?,hblk];rfl
theorem Lj(w:World)(h:aM g D w p mb ib nb T)(hT:OkW T)(hf:∀k x,aj k T=some x→x.names.length≤65535):Calls Tryz.prog 105 #[ptr p] w (fJ w (f_ T)):=by
 have Oi:=ab9 h;have HT:=ab9 hT;have HFW:=ab9 hf;have hlen:=hT.len;obtain⟨N,hN⟩:∃N,N=T.length:=⟨_,rfl⟩;have qJ:=ab9 hN;rw[←hN]at hlen;clear h hT hN hf;go_enter Tryz.func105,Tryz.ntmps105;go_wp2_with fail;refine(dB w).mono ?_;rintro e w1 ⟨rfl,hW1,hb1⟩;have HW1:=ab9 hW1;have HB1:=ab9 hb1;have h1:=Oi.o.below hb1 ace;have hs1:=hb1.size;obtain⟨hc0,hpw,hmw⟩:=h1.cell;have kr:=ab9 h1.map;have nH:=ab9 (dV hW1 (N:Int) (by omega) (by omega) (by simp));clear h1 hW1 hb1;go_wp2_with (at_len;refine lH aU rfl _ 186 189 rfl Tryz.underlying186 rfl kr.o ?_;rw[List.length_map,←qJ.o]);refine nH.o.mono ?_;rintro e w2 ⟨rfl,v2,hm2⟩;have HW2:=ab9 hm2.1;have HB2:=ab9 (HB1.o.trans (hm2.low HW1.o));have Ka:=ab9 (Qy w2 (Oi.o.below HB2.o ace) (by rw[←qJ.o];omega));clear hm2 nH hc0 hpw hmw kr HB1;go_wp2_with fail;refine Ka.o.mono ?_;rintro e w3 ⟨a3,c3,rfl,hc3,hr3,hb3⟩;have hil:(mO T).length=N:=by unfold mO;rw[List.length_map,qJ.o]
 rw[hil]at hc3 hr3⊢;have HW3:=ab9 (HW2.o.below hb3);have HB3:=ab9 (HB2.o.trans (hb3.mono HB2.o.size));have HR3:=ab9 hr3;have HOB:acd (∀b,w2.heap.size≤b→b≠w.heap.size∧v2.ownBlock≠some b):=fun b hb=>⟨by have:=HW2.o.lt;omega,fun he=>by have:=jf HW2.o.own b he;omega⟩;clear hb3 hr3 Ka HW2;go_wp2_with fail
 go_loopw [22] (fun iv wr=>∃(i:Nat) (v':Value),i≤N∧iv= .int .i64 i∧kD w.heap.size w3 w.heap.size v2 (bA (N:Int) 2++(T.take i).flatMap fun q=>kJ q.1 q.2) v' wr) (fun iv _=>N-(intOf iv).toNat)
 case atStart=>exact⟨0,v2,by omega,rfl,by simpa using kD.refl HW3.o⟩
 case round=>
  obtain⟨i,v',hi,rfl,hm⟩:=hrel;have HM:=ab9 hm;have FM:=ab9 (HB3.o.trans (hm.low HW3.o));clear hm;by_cases hin:i<N
  ·have hd1:decide ((i:Int)<(N:Int))=true:=by simpa using hin
   obtain⟨e,he⟩:∃e,T[i]? =some e:=⟨_,List.getElem?_eq_getElem (by have:=qJ.o;omega)⟩;obtain⟨k,x⟩:=e;have hmem:(k,x)∈T:=aaI he;have hx:aj k T=some x:=bI dU HT.o.sorted hmem;obtain⟨ab,cb,hcb,hF⟩:=Oh Oi.o hx;have O1:=ab9 (HT.o.each k x hx);have xU:=HT.o.ids k x hx;have hok:aU.ok k:=mg xU.1 (by omega);have HG:acd (aj k (T.map fun q=>(q.1,ptr (ib q.1)))=some (ptr (ib k))):=by rw[dH,hx];rfl
   obtain⟨b3,o3,rfl,SA,hb3w,hcc⟩:=HR3.o.at_ (by omega);have NZ:=HOB.o b3 SA.1;have ck:wr.cell? ⟨b3,o3+i,none⟩=some (.int .i64 k):=by
    rw[World.cell?_of_block (w:=w3) (w':=wr) (a:=⟨b3,o3+i,none⟩) (HM.o.other hb3w NZ.1 NZ.2).1,hcc i hin];unfold mO;rw[List.getElem?_map,List.getElem?_map,he];rfl
   have FR:=hF wr FM.o;have HF:=ab9 hF;have HX:=ab9 hx;have HE:=ab9 he;have c0:=FR.c0;have c1:=FR.c1;have c2:=FR.c2;have c3':=FR.c3;have c4:=FR.c4;have c5:=FR.c5;have p0:=FR.head;have lT:=ab9 FR.map;have hen:=Ns k x O1.o xU.1 xU.2 wr;unfold DV at hen;have Gn:=ab9 hen;have hi0:(0:Int)≤(i:Int):=by omega
   have hiN:(i:Int)<(N:Int):=by omega
   clear hx he hmem hF FR hen hcc;go_wp2_with (first|(at_lookup;refine bJ aU rfl _ _ 186 189 rfl Tryz.underlying186 (Tryz.bW _) rfl lT.o k rfl hok ?_;rw[HG.o]));refine Gn.o.mono ?_;rintro e w4 ⟨ae,ne,ce,rfl,hce,hre,hbe⟩;have hne:ne=16:=by have h9:=hre.length;rw[List.length_map,mD]at h9;omega
   subst hne;obtain⟨Wq,ZV⟩:∃Wq,Wq=(bA (N:Int) 2++(T.take i).flatMap fun q=>kJ q.1 q.2):=⟨_,rfl⟩;rw[←ZV]at HM;have hl0:Wq.length≤84200000:=by
    have h9:=sV HT.o HFW.o (T.take i) fun q hq=>aaK hq;rw[List.length_take]at h9;rw[ZV,List.length_append,ay];omega
   have Us:=ab9 ZV;have Np:=HM.o.1.below hbe;have zm:=ab9 Np;have dh:=ab9 (FM.o.trans (hbe.mono FM.o.size));have VW:=HM.o.1.lt;have HY1:=ab9 (qM Np ae 16 ce (uI k x) hre (fun b hb=>⟨by omega,fun he=>by have:=jf HM.o.1.own b he;omega⟩) hce (by omega) (by omega));have mo:=ab9 (HM.o.below hbe);clear ZV Np hre hbe hce Gn ck c0 c1 c2 c3' c4 c5 p0 lT;go_wp2_with fail;refine HY1.o.mono ?_;rintro e w5 ⟨rfl,v5,Nt⟩;have vI:=ab9 (mo.o.trans Nt);have dX:=ab9 (dh.o.trans ((Nt.low zm.o).mono ace));have F5:=HF.o w5 dX.o;have c6:=F5.c6;have hbl:=O1.o.size;have NI:=ab9 Oi.o.oN;have HY2:=ab9 (qM Nt.1 ab x.b.length cb x.b F5.row (fun b hb=>⟨by have:=NI.o b hb;omega,fun he=>by have:=bC Nt.1.own b he;have:=NI.o b hb;omega⟩) hcb (by simp only[List.length_append,mD,ay];omega) (by omega));clear Nt F5 HY1 zm dh mo;go_wp2_with fail;refine HY2.o.mono ?_;rintro e w6 ⟨rfl,v6,Gf⟩;have oK:=ab9 (dX.o.trans (Gf.low vI.o.1));have Ak:=ab9 (vI.o.trans Gf);clear Gf HY2 c6 vI dX;have Ed:=HFW.o _ _ HX.o;have F6:=HF.o w6 oK.o;have c7:=F6.c7;obtain⟨L,hL⟩:∃L,L=x.names.length:=⟨_,rfl⟩;have J7:=ab9 hL;have hlb:(Wq++(bA ((16:Nat):Int) 2++uI k x)++(bA (x.b.length:Int) 2++x.b)).length≤84300000:=by simp only[List.length_append,mD,ay];omega
   have YJ:=ab9 (dV Ak.o.1 (L:Int) (by omega) (by omega) (by omega));by_cases hk2:x.kind=2
   ·have e2:eu x (nb k)= .map (some (nb k)):=if_pos hk2;rw[e2]at c7;have HN:=ab9 (F6.names hk2);have AA:=ab9 hk2;clear F6 hk2 e2 hL;go_wp2_with (at_len;refine lH fT rfl _ 190 3 rfl Tryz.underlying190 rfl HN.o ?_;rw[dJ,List.length_map,←J7.o]);refine YJ.o.mono ?_;rintro e w7 ⟨rfl,v7,U9⟩;have MV:=oK.o.trans (U9.low Ak.o.1);have jw:=ab9 MV;have Df:=ab9 (Ak.o.trans U9);have e2:eu x (nb k)= .map (some (nb k)):=if_pos AA.o;have c7:=(HF.o w7 MV).c7;have hkk:=Tryz.I7 (some (nb k)) w7;have hso:=sorted_at k x w7 (Oi.o.below MV ace) HT.o HX.o (HFW.o _ _ HX.o);rw[e2]at c7 hso;have hll:(x.names.map (·.1)).length=L:=by rw[List.length_map,J7.o]
    have Zn:=ab9 hso;have hwa:=wall w7 (.cells #[.map (some (nb k))] 190);clear U9 MV e2 hso YJ Ak oK HN;go_wp2_with (go_at_call 181;refine hkk.mono ?_;rintro e w' ⟨rfl,rfl⟩);refine Zn.o.mono ?_;rintro e w8 ⟨a8,c8,rfl,hc8,Aj,gJ⟩;rw[hll]at Aj hc8⊢;have hb78:Below w7.heap.size w7 w8:=hwa.trans (gJ.mono hwa.size);have nG:=ab9 (jw.o.trans (hb78.mono jw.o.size));have J_:=ab9 (Df.o.below hb78);have Ut:=ab9 Aj;have HO8:acd (∀b,w7.heap.size<b→b≠w.heap.size∧v7.ownBlock≠some b):=fun b hb=>⟨by have:=Df.o.1.lt;omega,fun he=>by have:=jf Df.o.1.own b he;omega⟩;have hsz8:(w7.alloc (.cells #[.map (some (nb k))] 190)).heap.size=w7.heap.size+1:=by simp
    clear hb78 gJ hwa hkk Aj Zn jw c7;go_wp2_with fail
    go_loopw [63] (fun jv wr2=>∃(j:Nat) (vj:Value),j≤L∧jv= .int .i64 j∧kD w.heap.size w8 w.heap.size v7 (Wq++(bA ((16:Nat):Int) 2++uI k x)++(bA (x.b.length:Int) 2++x.b)++bA (L:Int) 2++(x.names.take j).flatMap MQ) vj wr2) (fun jv _=>L-(intOf jv).toNat)
    case atStart=>exact⟨0,v7,by omega,rfl,by simpa using kD.refl J_.o.1⟩
    case round=>
     obtain⟨j,vj,hj,rfl,hmj⟩:=hrel;have HMJ:=ab9 hmj;have ZW:=ab9 (nG.o.trans (hmj.low J_.o.1));clear hmj;by_cases hjL:j<L
     ·have hd2:decide ((j:Int)<(L:Int))=true:=by simpa using hjL
      obtain⟨en,hen⟩:∃en,x.names[j]? =some en:=⟨_,List.getElem?_eq_getElem (by have:=J7.o;omega)⟩;obtain⟨nm,id⟩:=en;have QS:(nm,id)∈x.names:=aaI hen;have hgn:=bI Dx O1.o.sorted QS;have hg16:nm.length≤16:=nU (O1.o.good _ QS);have hled:=HT.o.leads k x HX.o _ QS;obtain⟨y,hy⟩:=aak.1 hled.1;have hid2:0≤id∧id≤65535:=HT.o.ids _ _ hy;obtain⟨b8,o8,s,rfl,hS8,hb8w,hs,hsl,hc8c⟩:=Ut.o.cell j hjL;rw[List.getElem?_map,List.getElem?_map,hen]at hs;obtain rfl:strOf nm=s:=by simpa using hs
      have ho8:=HO8.o b8 (by omega);have cn:wr.cell? ⟨b8,o8+j,none⟩=some (.string (strOf nm)):=(World.cell?_of_block (w:=w8) (w':=wr) (a:=⟨b8,o8+j,none⟩) (HMJ.o.other hb8w ho8.1 ho8.2).1).trans hc8c;obtain⟨cn9,wc,hrun,hbc,hltc,Ws,hcells⟩:=Li wr nm (by omega);have hrow:ah (fun b=>b=wr.heap.size) wc (some ⟨wr.heap.size,0,none⟩) nm.length (nm.map bv):=hcells;have hWC:=HMJ.o.1.below hbc;have hxw:=HMJ.o.1.lt;have hlj:(Wq++(bA ((16:Nat):Int) 2++uI k x)++(bA (x.b.length:Int) 2++x.b)++bA (L:Int) 2++(x.names.take j).flatMap MQ).length≤85700000:=by
       have h9:=CZ (x.names.take j) fun e he=>nU (O1.o.good e (aaK he));rw[List.length_take]at h9;simp only[List.length_append,mD,ay]at hlb⊢;omega
      have HY3:=ab9 (qM hWC (some ⟨wr.heap.size,0,none⟩) nm.length cn9 nm hrow (fun b hb=>⟨by rw[hb];omega,fun he=>by have:=jf HMJ.o.1.own b he;omega⟩) Ws (by omega) (by omega));have Ur:=ab9 (HMJ.o.below hbc);have N_:=ab9 (ZW.o.trans (hbc.mono ZW.o.size));have Qp:=ab9 hgn;have HEN2:=ab9 hen;have hj0:(0:Int)≤(j:Int):=by omega
      have hL4:L≤65535:=by have:=J7.o;omega
      have ew:IntKind.i64.wrap ((j:Int)+1)=(j:Int)+1:=aah _ (by omega);have hjL':(j:Int)<(L:Int):=by omega
      clear hen QS hgn hled hy hs hsl hc8c hrow hWC hbc hcells;go_wp2_with fail;refine HY3.o.mono ?_;rintro e Hf ⟨rfl,v10,hm10⟩;have HM10:=ab9 (Ur.o.trans hm10);have Es:=ab9 (N_.o.trans (hm10.low Ur.o.1));have F10:=HF.o Hf Es.o;have c7:=F10.c7;have e2:eu x (nb k)= .map (some (nb k)):=if_pos AA.o;rw[e2]at c7;have HN10:=ab9 (F10.names AA.o);have HG10:acd (aj nm (dJ x)=some (.int .i64 id)):=by rw[kZ,Qp.o];rfl
      have hnml:nm.length≤maxLen:=by unfold maxLen;omega
      have HS10:=ab9 (dV HM10.o.1 id hid2.1 (by omega) (by simp only[List.length_append,mD,ay]at hlj⊢;omega));clear hm10 F10 e2 hrun;go_wp2_with (at_lookup;refine bJ fT rfl _ _ 190 3 rfl Tryz.underlying190 (Tryz.jZ _) rfl HN10.o nm rfl hnml ?_;rw[HG10.o]);refine HS10.o.mono ?_;rintro e V4 ⟨rfl,v11,hm11⟩;have Oj:=HM10.o.trans hm11;have hby:Wq++(bA ((16:Nat):Int) 2++uI k x)++(bA (x.b.length:Int) 2++x.b)++bA (L:Int) 2++(x.names.take j).flatMap MQ++(bA (nm.length:Int) 2++nm)++bA id 2=Wq++(bA ((16:Nat):Int) 2++uI k x)++(bA (x.b.length:Int) 2++x.b)++bA (L:Int) 2++(x.names.take (j+1)).flatMap MQ:=by
       rw[List.take_add_one,HEN2.o,abf];simp[MQ,oO,List.append_assoc]
      rw[hby]at Oj;have HM11:=ab9 Oj;clear Oj hby hm11;go_wp2_with fail;go_roundw
      case rel=>exact⟨j+1,v11,by omega,by go_num,HM11.o⟩
      case measure=>
       simp only[intOf];omega
     ·have hd2:decide ((j:Int)<(L:Int))=false:=by simpa using hjL
      have hfin:Wq++(bA ((16:Nat):Int) 2++uI k x)++(bA (x.b.length:Int) 2++x.b)++bA (L:Int) 2++(x.names.take j).flatMap MQ=(bA (N:Int) 2++(T.take (i+1)).flatMap fun q=>kJ q.1 q.2):=by
       rw[List.take_of_length_le (show x.names.length≤j by have:=J7.o;omega),Us.o,List.take_add_one,HE.o,abf,J7.o];simp[kJ,oO,mD,List.append_assoc]
      have hMN:=J_.o.trans HMJ.o;rw[hfin]at hMN;have HMN:=ab9 hMN;clear hMN hfin;go_wp2_with fail;go_roundw
      case rel=>exact⟨i+1,vj,by omega,by go_num,HMN.o⟩
      case measure=>simp[intOf];omega
   ·have e2:eu x (nb k)= .map none:=if_neg hk2;have hnil:x.names=[]:=O1.o.file (O1.o.kind.resolve_right hk2);obtain rfl:L=0:=by rw[hL,hnil];rfl
    rw[e2]at c7;have HSH0:acd (Calls Tryz.prog 68 #[ptr w.heap.size,.int .i64 0] w6 (oJ w.heap.size w6 w.heap.size v6 (Wq++(bA ((16:Nat):Int) 2++uI k x)++(bA (x.b.length:Int) 2++x.b)++bA ((0:Nat):Int) 2))):=YJ.o;clear F6 hk2 hL;go_wp2_with fail;refine HSH0.o.mono ?_;rintro e w7 ⟨rfl,v7,U9⟩;have MV:=oK.o.trans (U9.low Ak.o.1);have jw:=ab9 MV;have Df:=ab9 (Ak.o.trans U9);have c7:=(HF.o w7 MV).c7;have hkk:=Tryz.I7 none w7;have hso:=sorted_at k x w7 (Oi.o.below MV ace) HT.o HX.o (HFW.o _ _ HX.o);rw[e2]at c7 hso;rw[hnil]at hso;have Zn:=ab9 hso;have HNIL:=ab9 hnil;have hwa:=wall w7 (.cells #[.map none] 190);clear U9 MV e2 hso YJ HSH0 Ak oK hnil;go_wp2_with (go_at_call 181;refine hkk.mono ?_;rintro e w' ⟨rfl,rfl⟩);refine Zn.o.mono ?_;rintro e w8 ⟨a8,c8,rfl,hc8,Aj,gJ⟩;have J_:=ab9 (Df.o.below (hwa.trans (gJ.mono hwa.size)));simp only[abl,List.length_nil]at hc8⊢;clear gJ hwa hkk Aj Zn jw c7;have hfin:Wq++(bA ((16:Nat):Int) 2++uI k x)++(bA (x.b.length:Int) 2++x.b)++bA ((0:Nat):Int) 2=(bA (N:Int) 2++(T.take (i+1)).flatMap fun q=>kJ q.1 q.2):=by
     rw[Us.o,List.take_add_one,HE.o,abf];simp[kJ,oO,mD,HNIL.o,List.append_assoc]
    have hMN:=J_.o;rw[hfin]at hMN;have HMN:=ab9 hMN;clear hMN hfin J_ Df;go_wp2_with fail
    go_loopw [63] (fun jv wr2=>jv= .int .i64 0∧wr2=w8) (fun jv _=>0)
    case atStart=>exact⟨rfl,rfl⟩
    case round=>
     obtain⟨rfl,rfl⟩:=hrel;go_wp2_with fail;go_roundw
     case rel=>exact⟨i+1,v7,by omega,by go_num,HMN.o⟩
     case measure=>simp[intOf];omega
  ·have hd1:decide ((i:Int)<(N:Int))=false:=by simpa using hin
   have hTi:(bA (N:Int) 2++(T.take i).flatMap fun q=>kJ q.1 q.2)=f_ T:=by
    rw[List.take_of_length_le (by have:=qJ.o;omega),qJ.o];rfl
   have hlT:(f_ T).length≤100000000:=by
    have:=sV HT.o HFW.o T fun q hq=>hq;unfold f_;rw[List.length_append,ay];have:=qJ.o;omega
   have HD:=ab9 (fK HM.o.1 (by rw[hTi];exact hlT));rw[hTi]at HD;go_wp2_with fail;refine HD.o.mono ?_;rintro e w9 ⟨a9,n9,c9,rfl,xw,jK,iT⟩;have Gg:=ab9 jK;have sU:=ab9 (FM.o.trans (iT.mono FM.o.size));have hsr:=FM.o.size;clear jK iT;go_wp2_with fail;go_ret;exact⟨a9,n9,c9,rfl,xw,Gg.o.mono fun b hb=>⟨by omega,hb.2⟩,sU.o⟩
theorem ZX(w:World)(h:aM g D w p mb ib nb T)(hT:fu T):Calls Tryz.prog 105 #[ptr p] w (fJ w (f_ T)):=
 Lj w h hT fun k x hx=>by have:=hT.few hx;omega
end
section
variable{W w:World}{o:Mark}{i p:Nat}{T:aI}
theorem SB{S:Nat→Prop}(h:eX o i w p T)(hM:Marks W o w)(hi:i≠0)(hT:fu T)(a:Option Addr)(n c:Nat)(ls:List Nm)(hS:bH S w a n (ls.map strOf))(hc:n≤c)(vY:n≤1000000):
  Calls Tryz.prog 129 #[ptr p,.slice a n c] w (kT o i w p (dR T ls).2 (.int .i64 (dR T ls).1)):=by
 obtain⟨g,D,mb,ib,nb,hA,hg,hD⟩:=h;exact(RO a n c ls w hA hT hS hc vY).mono fun e w' ht=>kT.of hM hi hg hD ht
theorem ZY(h:eX o i w p T)(hM:Marks W o w)(hi:i≠0)(id aT:Int)(hid:(Lit.int .i64 id).wf=true)(ht0:0≤aT)(ht1:aT≤18446744073709551615):
  Calls Tryz.prog 125 #[ptr p,.int .i64 id,.int .u64 aT] w (kT o i w p (fZ T id aT).2 (.int .i64 (fZ T id aT).1)):=by
 obtain⟨g,D,mb,ib,nb,hA,hg,hD⟩:=h;exact(Y_ id aT w hA hid ht0 ht1).mono fun e w' ht=>kT.of hM hi hg hD ht
theorem Z0(h:eX o i w p T)(hM:Marks W o w)(hi:i≠0)(hT:OkW T)(id:Int)(hid:(Lit.int .i64 id).wf=true):
  Calls Tryz.prog 178 #[ptr p,.int .i64 id] w (kT o i w p (eU T id).2 (.int .i64 (eU T id).1)):=by
 obtain⟨g,D,mb,ib,nb,hA,hg,hD⟩:=h;exact(drop_at id hT w hA hid).mono fun e w' ht=>kT.of hM hi hg hD ht
theorem Wt(h:eX o i w p T)(hT:OkW T)(hf:∀k x,aj k T=some x→x.names.length≤65535):Calls Tryz.prog 105 #[ptr p] w (fJ w (f_ T)):=by
 obtain⟨g,D,mb,ib,nb,hA,hg,hD⟩:=h;exact Lj w hA hT hf
theorem Jm(h:eX o i w p T)(hT:fu T):Calls Tryz.prog 105 #[ptr p] w (fJ w (f_ T)):=by
 obtain⟨g,D,mb,ib,nb,hA,hg,hD⟩:=h;exact ZX w hA hT
theorem om_ids(h:eX o i w p T)(hT:OkW T):Calls Tryz.prog 177 #[ptr p] w (CY w (mO T)):=by
 obtain⟨g,D,mb,ib,nb,hA,hg,hD⟩:=h;exact Qy w hA (by have:=hT.len;omega)
open Classical in
theorem dI{W w w':World}{o:Mark}(hM:Marks W o w)(j:Nat)(G:Nat→Prop)(hG:∀b,G b→w.heap.size≤b∧b<w'.heap.size)(hb:Below w.heap.size w w'):∃o',Step o (fun i=>i=j) w o' w'∧(∀b,G b→o' b=j)∧(∀b,¬G b→o' b=o b):=by
 obtain⟨o',ho⟩:∃o':Mark,∀b,o' b=if G b then j else o b:=⟨_,fun _=>rfl⟩;refine⟨o',⟨fun b hb'=> ?_,fun b hb' hn=> ?_,(Keeps.below hb).mono fun x hx hx'=>absurd hx (by omega)⟩,fun b hb'=>by rw[ho,if_pos hb'],fun b hb'=>by rw[ho,if_neg hb']⟩
 ·rw[ho,if_neg (fun h=>by have:=hG b h;omega)]
 ·by_cases h:G b
  ·rw[ho,if_pos h];exact⟨rfl,(hG b h).2⟩
  ·rw[ho,if_neg h]at hn;have:=(hM.new b hn).2;omega
theorem QT(h:eX o i w p T)(hM:Marks W o w)(hT:OkW T)(j:Nat):
  Calls Tryz.prog 43 #[ptr p] w fun e w'=>∃q o',e= .returned (ptr q)∧Step o (fun i=>i=j) w o' w'∧eX o' j w' q T∧Below w.heap.size w w':=by
 obtain⟨g,D,mb,ib,nb,hA,hg,hD⟩:=h;refine(QO w hA hT).mono ?_;rintro e w' ⟨q,g',mq,Qq,nb',rfl,hA',hg',hb⟩;obtain⟨o',hs,h1,h2⟩:=dI hM j (fun b=>g' b≠ .none) (fun b hb'=>⟨hg' b hb',hA'.low b hb'⟩) hb;refine⟨q,o',rfl,hs,⟨g',D,mq,Qq,nb',hA',fun b hb'=>h1 b hb',fun b hb'=> ?_⟩,hb⟩;rw[hs.old b (hA.oN b hb')];exact hD b hb'
theorem Wu(h:eX o i w p T)(hM:Marks W o w)(hT:OkW T):
  Calls Tryz.prog 43 #[ptr p] w fun e w'=>∃q,e= .returned (ptr q)∧eX o 0 w' q T∧Below w.heap.size w w':=by
 obtain⟨g,D,mb,ib,nb,hA,hg,hD⟩:=h;refine(QO w hA hT).mono ?_;rintro e w' ⟨q,g',mq,Qq,nb',rfl,hA',hg',hb⟩;refine⟨q,rfl,⟨g',D,mq,Qq,nb',hA',fun b hb'=> ?_,hD⟩,hb⟩;have:=hg' b hb';by_cases h0:o b=0
 ·exact h0
 ·have:=(hM.new b h0).2;omega
end
theorem Wv(o:Mark):∀(n b:Nat),b<n→o b≤((List.range n).map o).sum
 |n+1,b,h=>by
  rw[ab3,aaz,List.sum_append];simp only[List.map_cons,abl,List.sum_cons,List.sum_nil];by_cases hb:b=n
  ·rw[hb];omega
  ·have:=Wv o n b (by omega);omega
theorem Ol{W w:World}{o:Mark}(hM:Marks W o w):∃j,j≠0∧∀b,o b≠j:=by
 refine⟨((List.range w.heap.size).map o).sum+1,by omega,fun b hb=> ?_⟩;have h1:=(hM.new b (by omega)).2;have:=Wv o w.heap.size b h1;omega
def bK(T:aI)(k:Nat):aI:=((mO T).take k).foldl (fun S id=>(eU S id).2) T
theorem nN(T:aI):bK T 0=T:=by unfold bK;rw[List.take_zero];rfl
theorem nO{T:aI}{k:Nat}{id:Int}(h:(mO T)[k]? =some id):bK T (k+1)=(eU (bK T k) id).2:=by
 unfold bK;obtain⟨hk,e⟩:=aaj.1 h;rw[aai hk,List.foldl_append,e];rfl
theorem oP{T:aI}:bK T T.length=dw T:=by
 unfold bK dw;rw[List.take_of_length_le (by unfold mO;rw[List.length_map];omega)]
theorem OkW.bK{T:aI}(h:OkW T):∀k,OkW (bK T k)
 |0=>by rw[nN];exact h
 |k+1=>by
  cases hg:(mO T)[k]? with
  |some id=>rw[nO hg];exact(h.bK k).eU id
  |none=>
   have:Go.Proofs.YtmflaonodghbcaaGreatDoor.bK T (k+1)=Go.Proofs.YtmflaonodghbcaaGreatDoor.bK T k:=by
    have hl:=ab4.1 hg;unfold Go.Proofs.YtmflaonodghbcaaGreatDoor.bK;rw[List.take_of_length_le hl,List.take_of_length_le (by omega)]
   rw[this];exact h.bK k
theorem fu.bK{T:aI}(h:fu T):∀k,fu (bK T k)
 |0=>by rw[nN];exact h
 |k+1=>by
  cases hg:(mO T)[k]? with
  |some id=>rw[nO hg];exact(h.bK k).eU id
  |none=>
   have:Go.Proofs.YtmflaonodghbcaaGreatDoor.bK T (k+1)=Go.Proofs.YtmflaonodghbcaaGreatDoor.bK T k:=by
    have hl:=ab4.1 hg;unfold Go.Proofs.YtmflaonodghbcaaGreatDoor.bK;rw[List.take_of_length_le hl,List.take_of_length_le (by omega)]
   rw[this];exact h.bK k
theorem fH.bK{T:aI}(h:fH T):∀k,fH (bK T k)
 |0=>by rw[nN];exact h
 |k+1=>by
  cases hg:(mO T)[k]? with
  |some id=>rw[nO hg];exact(h.bK k).eU id
  |none=>
   have:Go.Proofs.YtmflaonodghbcaaGreatDoor.bK T (k+1)=Go.Proofs.YtmflaonodghbcaaGreatDoor.bK T k:=by
    have hl:=ab4.1 hg;unfold Go.Proofs.YtmflaonodghbcaaGreatDoor.bK;rw[List.take_of_length_le hl,List.take_of_length_le (by omega)]
   rw[this];exact h.bK k
theorem fu.dw{T:aI}(h:fu T):fu (dw T):=by rw[←oP];exact h.bK _
theorem OkW.dw{T:aI}(h:OkW T):OkW (dw T):=by rw[←oP];exact h.bK _
theorem fH.dw{T:aI}(h:fH T):fH (dw T):=by rw[←oP];exact h.bK _
section
variable{W w:World}{o:Mark}{i p:Nat}{T:aI}
theorem xH(h:eX o i w p T)(hM:Marks W o w)(hT:OkW T)(j:Nat)(hj:j≠0)(hf:∀b,o b≠j):
  Calls Tryz.prog 104 #[ptr p] w fun e w'=>∃q o',e= .returned (ptr q)∧Step o (fun i=>i=j) w o' w'∧eX o' j w' q (dw T)∧Below w.heap.size w w':=by
 have KM:=ab9 (QT h hM hT j);have HM:=ab9 hM;have HT:=ab9 hT;have HJ:=ab9 hj;have HF:=ab9 hf;have hTl:=hT.len;clear h hM hT hj hf;go_enter Tryz.func104,Tryz.ntmps104;go_wp2_with fail;refine KM.o.mono ?_;rintro e w1 ⟨q,o1,rfl,hs1,hT1,hb1⟩;have nH:=ab9 hs1;have kr:=ab9 (HM.o.step (fun e=>HJ.o e.symm) hs1);have HT1:=ab9 hT1;have Ka:=ab9 (om_ids hT1 HT.o);clear hs1 hT1 hb1;go_wp2_with fail;refine Ka.o.mono ?_;rintro e w2 ⟨a,cap,rfl,hlc,hrow,hb2⟩;have hll:(mO T).length=T.length:=by unfold mO;rw[List.length_map]
 rw[hll]at hlc hrow;rw[hll];obtain⟨tl,htl⟩:∃tl,tl=T.length:=⟨_,rfl⟩;rw[←htl]at hTl hlc hrow⊢;have Zp:=ab9 htl;have gN:=ab9 hrow;have HS2:=ab9 (nH.o.then_ HM.o (fun e=>HJ.o e.symm) hb2);have HT2:=ab9 (HT1.o.grow hb2);clear hb2 hrow htl hll;have HR2:=ab9 ((gN.o.EA kr.o));clear gN;go_wp2_with fail
 go_loopw [4,12] (fun _ iv wr=>∃(k:Nat) (o2:Mark),iv= .int .i64 k∧k≤tl∧Step o (fun i=>i=j) w o2 wr∧eX o2 j wr q (bK T k)∧ah (Free o2 wr) wr a tl ((mO T).map (Value.int .i64))) (fun _ iv _=>tl-(intOf iv).toNat)
 case atStart=>
  exact⟨0,o1,rfl,Nat.zero_le _,HS2.o,by rw[nN];exact HT2.o,HR2.o⟩
 case round=>
  obtain⟨k,o2,rfl,hk,hs,hTk,Gj⟩:=hrel;have HS:=ab9 hs;have yP:=ab9 hTk;have NY:=ab9 Gj;clear hs hTk Gj;by_cases hlt:k<tl
  ·have hd:decide ((k:Int)<(tl:Int))=true:=by simpa using hlt
   obtain⟨id,hid⟩:∃id,(mO T)[k]? =some id:=⟨(mO T)[k]'(by unfold mO;rw[List.length_map,←Zp.o];exact hlt),List.getElem?_eq_getElem _⟩;obtain⟨b,off,rfl,hfb,hbw,hc⟩:=NY.o.at_ (by omega);have hck:=hc k hlt;rw[List.getElem?_map,hid]at hck;have hcell:wr.cell? ⟨b,off+k,none⟩=some (.int .i64 id):=hck;have hwf:(Lit.int .i64 id).wf=true:=by
    have hm:=aaI hid;unfold mO at hm;obtain⟨q',hq',rfl⟩:=List.mem_map.1 hm;have:=HT.o.ids q'.1 q'.2 (bI dU HT.o.sorted hq');simp[Lit.wf,IntKind.min,IntKind.max,IntKind.signed,IntKind.bits];omega
   have HDR:=ab9 (Z0 yP.o (HM.o.step (fun e=>HJ.o e.symm) HS.o) HJ.o (HT.o.bK k) id hwf);have i0:(0:Int)≤(k:Int):=by omega
   have i1:(k:Int)<(tl:Int):=by omega
   have HIDK:=ab9 hid;clear hid hfb hbw hc hck hwf;go_wp2_with fail;refine HDR.o.mono ?_;rintro e w3 ⟨rfl,o3,hs3,hT3⟩;have xV:=ab9 (HS.o.trans hs3);have HT3:=ab9 hT3;have HR3:=ab9 (NY.o.free (fun e=>HJ.o e.symm) hs3);clear hs3 hT3 HDR;go_wp2_with fail;go_roundw
   case rel=>
    refine⟨k+1,o3,by go_num,by omega,xV.o,?_,HR3.o⟩;rw[nO HIDK.o];exact HT3.o
   case measure=>simp[intOf];omega
  ·have hd:decide ((k:Int)<(tl:Int))=false:=by simp;omega
   obtain rfl:tl=k:=by omega
   go_wp2_with fail;go_ret;have h9:=yP.o;rw[Zp.o,oP]at h9;refine⟨q,o2,rfl,HS.o,h9,?_⟩;exact HS.o.keep.bQ ace fun x _ hx=>HF.o x hx
theorem rA(h:eX o i w p T)(hM:Marks W o w)(hT:OkW T):
  Calls Tryz.prog 104 #[ptr p] w fun e w'=>∃q,e= .returned (ptr q)∧eX o 0 w' q (dw T)∧Below w.heap.size w w':=by
 obtain⟨j,hj,hf⟩:=Ol hM;refine(xH h hM hT j hj hf).mono ?_;rintro e w' ⟨q,o',rfl,hs,hT',hb⟩;refine⟨q,rfl,hT'.remark (fun b hb' he=> ?_) (fun b hb' he=> ?_),hb⟩
 ·by_cases hlt:b<w.heap.size
  ·rw[hs.old b hlt]at he;exact absurd he (hf b)
  ·exact Vh fun h0=>by have:=(hM.new b h0).2;omega
 ·by_cases hlt:b<w.heap.size
  ·rw[hs.old b hlt]at he;exact he
  ·exact Vh fun h0=>by have:=(hM.new b h0).2;omega
end
section
variable{W w:World}{o:Mark}{i s:Nat}{S:rH}
theorem oD.grow{K:aI→Prop}(h:oD K o i w s S){w':World}(hM:Marks W o w)(hb:Below w.heap.size w w'):oD K o i w' s S:=
 h.step (I:=fun _=>False) (fun h=>h) (fun h=>h) (Step.grow hM hb)
theorem oD.lt{K:aI→Prop}(h:oD K o i w s S):s<w.heap.size:=by
 obtain⟨v,la,lc,vals,h1,h2,h3,h4,h5,h6,h7,h8⟩:=h.at_;exact h3
theorem SC(hM:Marks W o w)(j:Nat)(hj:j≠0):Calls Tryz.prog 103 #[] w fun e w'=>∃s o',e= .returned (ptr s)∧Step o (fun k=>k=j) w o' w'∧jR o' j w' s Hq∧Below w.heap.size w w':=by
 have HM:=ab9 hM;clear hM;go_enter Tryz.func103,Tryz.ntmps103;go_wp2;go_ret;obtain⟨o',hs,h1,h2⟩:=dI HM.o j (fun b=>b=w.heap.size) (w':=w.alloc (.cells #[.slice none 0 0,.int .i64 1,.slice none 0 0] 199)) (fun b hb=>by subst hb;simp) (wall w _);refine⟨w.heap.size,o',rfl,hs,⟨.slice none 0 0,none,0,[],(MapKept.heap_alloc w _).1,h1 _ rfl,by simp,⟨rfl,.inl ⟨rfl,rfl⟩⟩,fun b hb=>by simp[Value.ownBlock]at hb,rfl,Nat.le_refl _,ah.nil _ _ _⟩,wall w _⟩
def EB(l:List lU)(id v:Int):Prop:=
 (v= -1∧∀x∈l,x.id≠id)∨∃(k:Nat) (x:lU),v=k∧l[k]? =some x∧x.id=id∧∀x'∈l.take k,x'.id≠id
theorem SE(z:Int)(hv qv:Value)(id:Int)(vb:Nat)(w:World)(hc:w.cell? ⟨vb,0,none⟩=some (.int .i64 id))(hvb:vb<w.heap.size):Calls Tryz.prog 196 #[.agg #[.int .i64 z,hv,qv],ptr vb] w fun e w'=>e= .returned (.bool (z==id))∧Below w.heap.size w w':=by
 have hc2:(w.alloc (.cells #[.int .i64 z,hv,qv] 197)).cell? ⟨vb,0,none⟩=some (.int .i64 id):=((wall w _).cell (p:=⟨vb,0,none⟩) hvb).trans hc;go_enter Tryz.func196,Tryz.ntmps196;go_wp2;go_ret;exact⟨rfl,wall w _⟩
theorem SF{a:Option Addr}{n c:Nat}{vals:List Value}{l:List lU}(id:Int)(vb:Nat)(hl:l.length=n)(hr:ah (fun b=>b<w.heap.size) w a (n*3) vals)(hO:Jl o w vals l)(hn:n≤1000)(hc:w.cell? ⟨vb,0,none⟩=some (.int .i64 id))(hvb:vb<w.heap.size):
  Calls Tryz.prog 195 #[.slice a n c,.func (.func 196) #[] #[ptr vb]] w fun e w'=>∃v,e= .returned (.int .i64 v)∧EB l id v∧Below w.heap.size w w':=by
 have HR:=ab9 hr;have HO:=ab9 hO;have HL:=ab9 hl;clear hr hO hl;go_enter Tryz.func195,Tryz.ntmps195;go_wp2
 go_loopw [5,8] (fun _ iv wr=>∃k:Nat,k≤n∧iv= .int .i64 k∧(∀x∈l.take k,x.id≠id)∧Below w.heap.size w wr) (fun _ iv _=>n-(intOf iv).toNat)
 case atStart=>exact⟨0,by omega,rfl,by simp,Below.refl _ _⟩
 case round=>
  obtain⟨k,hk,rfl,hno,hb⟩:=hrel;have Uu:=ab9 hno;have HB:=ab9 hb;clear hno;by_cases hlt:k<n
  ·obtain⟨g,off,rfl,hgw,_,hcell⟩:=HR.o.at_ (by omega);obtain⟨x,hx⟩:∃x,l[k]? =some x:=⟨l[k]'(by rw[HL.o];exact hlt),List.getElem?_eq_getElem _⟩;obtain⟨ha,hcp,q,e0,e1,e2,_⟩:=HO.o.at_ hx;have d0:wr.cell? ⟨g,off+k*3,none⟩=some (.int .i64 x.id):=(hb.cell (p:=⟨g,off+k*3,none⟩) hgw).trans ((hcell (k*3) (by omega)).trans e0);have d1:wr.cell? ⟨g,off+k*3+1,none⟩=some (.slice ha x.hash.length hcp):=(hb.cell (p:=⟨g,off+k*3+1,none⟩) hgw).trans ((hcell (k*3+1) (by omega)).trans e1);have d2:wr.cell? ⟨g,off+k*3+2,none⟩=some (ptr q):=(hb.cell (p:=⟨g,off+k*3+2,none⟩) hgw).trans ((hcell (k*3+2) (by omega)).trans e2);have HX:=ab9 hx;have hcv:=(hb.cell (p:=⟨vb,0,none⟩) hvb).trans hc;have HF:=ab9 (SE x.id (.slice ha x.hash.length hcp) (ptr q) id vb wr hcv (by have:=hb.size;omega));have i0:(0:Int)≤(k:Int):=by omega
   have i1:(k:Int)<(n:Int):=by omega
   have hd:decide ((k:Int)<(n:Int))=true:=by simpa using i1
   clear hx hcell e0 e1 e2 hcv hb;by_cases he:x.id=id
   ·have he2:(x.id==id)=true:=by simpa using he
    rw[he2]at HF;have HE:=ab9 he;clear he he2;go_wp2_with fail;refine HF.o.mono ?_;rintro e w1 ⟨rfl,hb1⟩;go_wp2_with fail;go_ret;exact⟨k,rfl,.inr ⟨k,x,rfl,HX.o,HE.o,Uu.o⟩,HB.o.trans (hb1.mono HB.o.size)⟩
   ·have he2:(x.id==id)=false:=by simpa using he
    rw[he2]at HF;have HE:=ab9 he;clear he he2;go_wp2_with fail;refine HF.o.mono ?_;rintro e w1 ⟨rfl,hb1⟩;go_wp2_with fail;go_roundw
    case rel=>
     refine⟨k+1,by omega,by go_num,fun y hy=> ?_,HB.o.trans (hb1.mono HB.o.size)⟩;obtain⟨hkl,ek⟩:=aaj.1 HX.o;rw[aai hkl,ek]at hy;rcases aas.1 hy with hy|hy
     ·exact Uu.o y hy
     ·simp only[List.mem_singleton]at hy;rw[hy];exact HE.o
    case measure=>simp[intOf];omega
  ·have hd:decide ((k:Int)<(n:Int))=false:=by simp;omega
   go_wp2_with fail;go_ret;refine⟨-1,rfl,.inl ⟨rfl,fun x hx=>Uu.o x ?_⟩,HB.o⟩;rw[List.take_of_length_le (by have:=HL.o;omega)];exact hx
theorem Ww(h:jR o i w s S)(id:Int)(hn:S.l.length≤1000):Calls Tryz.prog 135 #[ptr s,.int .i64 id] w fun e w'=>∃v,e= .returned (.int .i64 v)∧EB S.l id v∧Below w.heap.size w w':=by
 obtain⟨v,la,lc,vals,h1,h2,h3,h4,h5,h6,h7,h8⟩:=h.at_;obtain⟨a,c,rfl,hcap⟩:=bG h4;obtain⟨-,-,hrow⟩:=ah.mF h4 (by unfold maxLen;omega);have c0:w.cell? ⟨s,0,none⟩=some (.slice a S.l.length c):=by simp[World.cell?,h1]
 obtain⟨n,hnl⟩:∃n,n=S.l.length:=⟨_,rfl⟩;rw[←hnl]at c0 hrow hcap hn;have hca:=(wall w (.cells #[.int .i64 id] 3));have c1:=(hca.cell (p:=⟨s,0,none⟩) h3).trans c0;have HI:=ab9 (SF (w:=w.alloc (.cells #[.int .i64 id] 3)) (a:=a) (n:=n) (c:=c) id w.heap.size hnl.symm ((hrow.below hca ace).mono fun b hb=>by simp;omega) (show Jl o _ vals S.l from gL.grow hca h6) hn lq (by simp));clear h h1 h2 h4 h5 h6 h7 h8 hrow hca c0 hnl;go_enter Tryz.func135,Tryz.ntmps135;go_wp2_with fail;refine HI.o.mono ?_;rintro e w1 ⟨v,rfl,hf,hb1⟩;have HF:=ab9 hf;have HB:=ab9 hb1;clear hf hb1;go_wp2_with fail;go_ret;exact⟨v,rfl,HF.o,(wall w _).trans (HB.o.mono (by simp))⟩
end
def xI(S:rH)(T:aI):(Int×Int)×rH:=
 if 8≤S.l.length then((0,4),S)else
 ((S.next,0),⟨S.l++[⟨S.next,kg (S.last++f_ (dw T)),dw T⟩],S.next+1,kg (S.last++f_ (dw T))⟩)
theorem Ll{T:aI}(hT:fu T):(f_ T).length≤6000000:=by
 have h1:=AP hT T (fun q hq=>hq);have h2:=hT.len;unfold f_;rw[List.length_append,ay];omega
section
variable{W w:World}{o:Mark}{i j s p:Nat}{S:rH}{T:aI}
end
end Go.Proofs.YtmflaonodghbcaaGreatDoor
