/- tree -/
import Derived.Test.YtjnhnlabpccgjaaGreatDoorM13
import Derived.Test.YtjnhnlabpccgjaaGreatDoorM15
import Derived.Test.YtjnhnlabpccgjaaGreatDoorM19
import Derived.Shelf.SlMaps.Clone
import Derived.WalkLawsBesides
import Derived.Test.YtjnhnlabpccgjaaGreatDoorM08
import Derived.Test.YtjnhnlabpccgjaaGreatDoorM16
set_option maxRecDepth 100000
set_option maxHeartbeats 64000000
set_option linter.all false
namespace Go.Proofs.YtjnhnlabpccgjaaGreatDoor
open Go.ChangeShapes Go.WideShapes Go.ChangeAt Go.RowKit
theorem Jy(b:Nat)(l:List (Nm×Value))(w:World)(hM:MapAt dZ w b l):Calls Tryz.prog 163 #[.map (some b)] w fun e w'=>e= .returned (.map (some w.heap.size))∧MapAt dZ w' w.heap.size l∧Below w.heap.size w w'∧w.heap.size<w'.heap.size:=
 (AnyW.maps_Clone_owns Tryz.SK 9 pG b l.length (yE dZ l) w hM).mono fun e w' h=>⟨h.1,MapAt.wE h.2.1,h.2.2.2,h.2.1.lt⟩
theorem LJ(w:World):Calls Tryz.prog 163 #[.map none] w fun e w'=>e= .returned (.map none)∧w'=w:=AnyW.maps_Clone_nil Tryz.SK w
def WY(w:World)(x:bP)(e:Ending)(w':World):Prop:=∃n,e= .returned (eY x n)∧(x.kind=2→MapAt dZ w' n (bW x)∧w.heap.size≤n∧n<w'.heap.size)∧Below w.heap.size w w'
theorem LK{w:World}{x:bP}{nb:Nat}(hM:x.kind=2→MapAt dZ w nb (bW x)):Calls Tryz.prog 163 #[eY x nb] w (WY w x):=by
 by_cases hk:x.kind=2
 ·have e1:eY x nb= .map (some nb):=if_pos hk;rw[e1];refine(Jy nb (bW x) w (hM hk)).mono ?_;rintro e w' ⟨rfl,h1,h2,h3⟩;exact⟨w.heap.size,by unfold eY;rw[if_pos hk],fun _=>⟨h1,Nat.le_refl _,h3⟩,h2⟩
 ·have e1:eY x nb= .map none:=if_neg hk;rw[e1];refine(LJ w).mono ?_;rintro e w' ⟨rfl,rfl⟩;exact⟨0,by unfold eY;rw[if_neg hk],fun h=>absurd h hk,Below.refl _ _⟩
section
variable{g:Nat→Own}{D:Nat→Prop}{p mb:Nat}{ib nb:Int→Nat}{T:aL}
def WZ(g:Nat→Own)(D:Nat→Prop)(w:World)(mb:Nat)(ib:Int→Nat)(T:aL)(q mq r:Nat)(wr:World):Prop:=
 ∃(left:Int→Bool) (cnt:Nat) (g':Nat→Own) (NG nb':Int→Nat),gQ bY wr mb r (T.map fun q=>(q.1,ptr (ib q.1))) left cnt∧aO g' D wr q mq NG nb' (rQ left T)∧(∀b,g' b≠ .none→w.heap.size≤b∧b≠r)∧Below w.heap.size w wr
def Z7(D:Nat→Prop)(w:World)(T:aL)(e:Ending)(w':World):Prop:=
 ∃q g' mq NG nb',e= .returned (ptr q)∧aO g' D w' q mq NG nb' T∧(∀b,g' b≠ .none→w.heap.size≤b)∧Below w.heap.size w w'
theorem LM{w0:World}{q mq:Nat}(hq:w0.heap[q]? =some (.cells #[.map (some mq)] 106 (0,0)))(hm:MapAt bY w0 mq [])(hne:q≠mq)(hD:∀b,D b→b<w0.heap.size∧b≠q∧b≠mq):
  aO (fun b=>if b=q then .head else if b=mq then .items else .none) D w0 q mq (fun _=>0) (fun _=>0) []:=by
 refine⟨hq,hm,fun k x hx=>(by simp[aj]at hx),if_pos rfl,by rw[if_neg (abw hne),if_pos rfl],fun k x hx=>(by simp[aj]at hx),fun k x hx=>(by simp[aj]at hx),fun b hb=> ?_,fun b hb=> ?_,fun b hb=>(hD b hb).1⟩
 ·rw[if_neg (hD b hb).2.1,if_neg (hD b hb).2.2]
 ·by_cases h1:b=q
  ·rw[h1];exact(iA.1 hq).1
  ·by_cases h2:b=mq
   ·rw[h2];exact hm.lt
   ·rw[if_neg h1,if_neg h2]at hb;exact absurd rfl hb
theorem NQ(w:World)(h:aO g D w p mb ib nb T)(hT:dG T):Calls Tryz.prog 86 #[ptr p] w (Z7 D w T):=by
 have hmm:= @run_makeMap Tryz.prog;have HH:=acA h;have HT:=acA hT;obtain⟨c0,hpw,hmw⟩:=h.cell;have HB2:=acA ((wall w (.map #[] 0)).trans ((wall (w.alloc (.map #[] 0)) (.cells #[.map (some w.heap.size)] 106)).mono (by simp)));have jX:=acA ((h.below HB2.o acC).map);have c2:=(HB2.o.cell (p:=⟨p,0,none⟩) hpw).trans c0;clear h hT;go_enter Tryz.func86,Tryz.ntmps86;go_wp2_with (at_range;refine tL bY rfl _ 104 102 rfl Tryz.underlying104 rfl jX.o ?_;intro w0 hR0 hB0 hs0)
 go_frame
 have Rw:=acA (mU (w:=w.alloc (.map #[] 0)) (v:= .map (some w.heap.size)) (t:=106));have Pb:((w.alloc (.map #[] 0)).alloc (.cells #[.map (some w.heap.size)] 106)).heap[w.heap.size+1]? =some (.cells #[.map (some w.heap.size)] 106 (0,0)):=by
  have:=(MapKept.heap_alloc (w.alloc (.map #[] 0)) (.cells #[.map (some w.heap.size)] 106)).1;simpa using this
 have hmb:MapAt bY ((w.alloc (.map #[] 0)).alloc (.cells #[.map (some w.heap.size)] 106)) w.heap.size []:=(MapAt.made (F:=bY) w).kept ((MapKept.heap_alloc (w.alloc (.map #[] 0)) _).2 w.heap.size (by simp));simp only[aad]at hR0 hB0 hs0;simp only[aad];have V9:aO (fun b=>if b=w.heap.size+1 then .head else if b=w.heap.size then .items else .none) D w0 (w.heap.size+1) w.heap.size (fun _=>0) (fun _=>0) []:=by
  refine LM ((hB0.block _ (by omega)).trans Pb) (hmb.kept (hB0.block _ (by omega))) (by omega) fun b hb=> ?_;have:=HH.o.rX b hb;omega
 go_loopw [4,5] (fun _ _ wr=>WZ g D w mb ib T (w.heap.size+1) w.heap.size (w.heap.size+2) wr) (fun _ _ wr=>wr.rangeLeft mb (w.heap.size+2))
 case atStart=>
  refine⟨_,_,(fun b=>if b=w.heap.size+1 then .head else if b=w.heap.size then .items else .none),fun _=>0,fun _=>0,hR0,?_,?_,HB2.o.trans (hB0.mono (by omega))⟩
  ·rw[Jk (fun q hq=>by rw[fG,cK fC HT.o.sorted hq];rfl)];exact V9
  ·intro b hb;by_cases h1:b=w.heap.size+1
   ·omega
   ·by_cases h2:b=w.heap.size
    ·omega
    ·simp only[if_neg h1,if_neg h2]at hb;exact absurd rfl hb
 case round=>
  obtain⟨left,cnt,g1,YV,YW,hR,hA,hg1,hB⟩:=hrel;have HA1:=acA hA;have HR:=acA hR;have HB:=acA hB;have Gs:=acA hg1;clear hR hA hB hg1;go_wp2_with (first|(at_next;refine vC bY rfl _ rfl rfl HR.o ?_ ?_))
  ·intro hdone;have II:acB (rQ left T=T):=O4 hdone;clear hdone;go_wp2;go_ret;have h9:=HA1.o;rw[II.o]at h9;exact⟨_,g1,_,YV,YW,rfl,h9,fun b hb=>(Gs.o b hb).1,HB.o⟩
  ·intro k v w3 cnt1 ZY hleft hg2 WT hlt hK1 hs1 hen;rw[fG]at hg2;cases hy:aj k T with
   |none=>rw[hy]at hg2;cases hg2
   |some x=>
    rw[hy]at hg2;cases hg2;have hrl:=HR.o.lt;have hB3:Below w.heap.size w w3:=HB.o.trans (hK1.mh HB.o.size fun b hb (hbr:b=w.heap.size+2)=>by omega);have hAs:=HH.o.below hB3 acC;have hA3:aO g1 D w3 (w.heap.size+1) w.heap.size YV YW (rQ left T):=HA1.o.keeps hK1 fun b hb (hbr:b=w.heap.size+2)=>by
     rcases hb with hb|hb
     ·exact(Gs.o b hb).2 hbr
     ·have:=HH.o.rX b hb;omega
    obtain⟨a,c,hcb,hcap,hrow⟩:=(hAs.item k x hy).cells;have hnm:=(hAs.item k x hy).names;have hiw:ib k<w3.heap.size:=(iA.1 hcb).1;have hqw:=hA3.cell.2.1;have hq0:=hA3.cell.1;have hR1w:=WT.lt;have HST:acB (∀w5 v,Below w3.heap.size w3 w5→∃w6,(Instr.mapUpdate 104 (.map (some w.heap.size)) (.int .i64 k) v).run Tryz.prog w5= .ok () w6∧MapAt bY w6 w.heap.size (dW bY.lt k v ((rQ left T).map fun q=>(q.1,ptr (YV q.1))))∧w5.mapTurned w6 w.heap.size):=fun w5 v hb=>by
     refine(hA3.map.kept (hb.block _ hA3.cell.2.2)).zP bY Tryz.underlying104 ?_ k v ZY;have h1:(rQ left T).length≤T.length:=aaY _ _;have h2:=HT.o.len;rw[List.length_map];unfold maxLen;omega
    have ji:acB (∀w',Below w3.heap.size w3 w'→w'.cell? ⟨w.heap.size+1,0,none⟩=some (.map (some w.heap.size))∧w'.cell? ⟨ib k,0,none⟩=some (.int .i64 k)∧w'.cell? ⟨ib k,1,none⟩=some (.int .i64 x.kind)∧w'.cell? ⟨ib k,2,none⟩=some (.int .i64 x.links)∧w'.cell? ⟨ib k,3,none⟩=some (.int .i64 x.b.length)∧w'.cell? ⟨ib k,4,none⟩=some (.int .u64 x.aA)∧w'.cell? ⟨ib k,5,none⟩=some (.bool x.closed)∧w'.cell? ⟨ib k,6,none⟩=some (.slice a x.b.length c)∧w'.cell? ⟨ib k,7,none⟩=some (eY x (nb k))):=fun w' hb=>by
     refine⟨(hb.cell (p:=⟨w.heap.size+1,0,none⟩) hqw).trans hq0,?_,?_,?_,?_,?_,?_,?_,?_⟩
     ·exact(hb.cell (p:=⟨ib k,0,none⟩) hiw).trans (jS hcb 0)
     ·exact(hb.cell (p:=⟨ib k,1,none⟩) hiw).trans (jS hcb 1)
     ·exact(hb.cell (p:=⟨ib k,2,none⟩) hiw).trans (jS hcb 2)
     ·exact(hb.cell (p:=⟨ib k,3,none⟩) hiw).trans (jS hcb 3)
     ·exact(hb.cell (p:=⟨ib k,4,none⟩) hiw).trans (jS hcb 4)
     ·exact(hb.cell (p:=⟨ib k,5,none⟩) hiw).trans (jS hcb 5)
     ·exact(hb.cell (p:=⟨ib k,6,none⟩) hiw).trans (jS hcb 6)
     ·exact(hb.cell (p:=⟨ib k,7,none⟩) hiw).trans (jS hcb 7)
    have HMC:=acA (LK (w:=w3.drew) (x:=x) (nb:=nb k) fun hk=>(hnm hk).kept rfl);have Sr:=acA hA3;have HY:=acA hy;have HR1:=acA WT;have Ah:=acA hlt;have HB3:=acA hB3;have iL:=acA hrow;have HCAP:=acA hcap;have HLF:=acA hleft;have e3:bY.val k= .int .i64 k:=rfl;rw[e3]at hen⊢;obtain⟨nl,hnl⟩:∃nl,nl=x.b.length:=⟨_,rfl⟩;obtain⟨nv,hnv⟩:∃nv,nv=eY x (nb k):=⟨_,rfl⟩;rw[←hnl,←hnv]at ji;rw[←hnv]at HMC;have R6:=acA hnl;clear hAs hA3 hcb hcap hrow hnm hy WT hlt hK1 hB3 hleft e3 hnl hnv;go_wp2_with fail;refine qA 20 ((fun w'=>w'.cell? ⟨w.heap.size+1,0,none⟩=some (.map (some w.heap.size))∧w'.cell? ⟨ib k,0,none⟩=some (.int .i64 k)∧w'.cell? ⟨ib k,1,none⟩=some (.int .i64 x.kind)∧w'.cell? ⟨ib k,2,none⟩=some (.int .i64 x.links)∧w'.cell? ⟨ib k,3,none⟩=some (.int .i64 nl)∧w'.cell? ⟨ib k,4,none⟩=some (.int .u64 x.aA)∧w'.cell? ⟨ib k,5,none⟩=some (.bool x.closed)∧w'.cell? ⟨ib k,6,none⟩=some (.slice a nl c)∧w'.cell? ⟨ib k,7,none⟩=some nv)) ?_ fun hS=> ?_
    ·exact ji.o _ acD.drew
    refine au 0 hS ?_;refine au 1 hS ?_;refine au 2 hS ?_;refine au 3 hS ?_;refine au 4 hS ?_;refine au 5 hS ?_;refine au 6 hS ?_;refine au 7 hS ?_;refine au 8 hS ?_;refine au 9 hS ?_;refine au 10 hS ?_;refine au 11 hS ?_;refine au 12 hS ?_;refine au 13 hS ?_;refine au 14 hS ?_;refine au 15 hS ?_;refine au 16 hS ?_;refine bB 17 fun K hK=> ?_;go_simp;refine HMC.o.mono ?_;rintro e w4 ⟨n,rfl,hn4,hb4⟩;have W9:Below w3.heap.size w3 w4:=acD.drew.trans hb4;obtain⟨mv,hmv⟩:∃mv,eY x n= .map mv:=by unfold eY;split<;>exact⟨_,rfl⟩
    rw[hmv];have HMV:=acA hmv;have Z8:=acA hn4;clear hmv hn4 hb4;go_wp2_with fail;refine bK hK (ji.o _ W9) fun hS=> ?_;clear hK K;refine au 18 hS ?_;refine bB 19 fun K hK=> ?_;go_simp;have Pf:Below w3.heap.size w3 (w4.alloc (.cells #[.int .i64 k,.int .i64 x.kind,.int .i64 x.links,.int .i64 nl,.int .u64 x.aA,.bool x.closed,.slice a nl c,.map mv] 138)):=W9.trans ((wall w4 _).mono W9.size);have hci:(w4.alloc (.cells #[.int .i64 k,.int .i64 x.kind,.int .i64 x.links,.int .i64 nl,.int .u64 x.aA,.bool x.closed,.slice a nl c,.map mv] 138)).heap[w4.heap.size]? =some (.cells (kP k x a c (if x.kind=2 then n else w4.heap.size+1)) 138 (0,0)):=by
     rw[(MapKept.heap_alloc w4 _).1];unfold kP;have e9:eY x (if x.kind=2 then n else w4.heap.size+1)= .map mv:=by
      have:=HMV.o;unfold eY at this⊢;by_cases hk:x.kind=2
      ·rw[if_pos hk]at this⊢;rw[if_pos hk];exact this
      ·rw[if_neg hk]at this⊢;exact this
     rw[e9,←R6.o]
    have hs5:(w4.alloc (.cells #[.int .i64 k,.int .i64 x.kind,.int .i64 x.links,.int .i64 nl,.int .u64 x.aA,.bool x.closed,.slice a nl c,.map mv] 138)).heap.size=w4.heap.size+1:=by simp
    have hb45:=wall w4 (.cells #[.int .i64 k,.int .i64 x.kind,.int .i64 x.links,.int .i64 nl,.int .u64 x.aA,.bool x.closed,.slice a nl c,.map mv] 138);refine bK hK (ji.o _ Pf) fun hS=> ?_;clear hK K;generalize (w4.alloc (.cells #[.int .i64 k,.int .i64 x.kind,.int .i64 x.links,.int .i64 nl,.int .u64 x.aA,.bool x.closed,.slice a nl c,.map mv] 138))=w5 at*;refine bB 20 fun K hK=> ?_;go_simp;obtain⟨w6,Y7,Pg,W_⟩:=HST.o w5 (ptr w4.heap.size) Pf;rw[Y7];go_simp;refine kX hK ?_;clear hS hK K;have SL:=acA Pg;have BM:=acA W_;have HB45:=acA hb45;have HCI:=acA hci;have hs6:=kY W_;clear Pg W_ Y7 hci hb45;go_wp2_with fail;have hs4:=W9.size;have hnew:∀b,b<w3.heap.size→b≠w.heap.size→w6.heap[b]? =w3.heap[b]? :=fun b hb hn=>(gB BM.o b (by omega) hn).trans (Pf.block b hb);have Rx:gQ bY w6 mb (w.heap.size+2) (T.map fun q=>(q.1,ptr (ib q.1))) _ cnt1:=HR1.o.kept (hnew mb hR1w.1 (by omega)) (hnew _ hR1w.2.1 (by omega));go_roundw
    case rel=>
     have hi9:kZ D w6 k w4.heap.size (if x.kind=2 then n else w4.heap.size+1) x:=by
      refine⟨⟨a,c,(gB BM.o _ (by omega) (by omega)).trans HCI.o,HCAP.o,iL.o.move (by omega) fun b hb hbw=>⟨hb,hnew b hbw (by have:=HH.o.rX b hb;omega)⟩⟩,fun hk=> ?_⟩;obtain⟨k1,k2,k3⟩:=Z8.o hk;rw[if_pos hk];have k2':w3.heap.size≤n:=k2;exact(k1.kept (HB45.o.block n k3)).kept (gB BM.o n (by omega) (by omega))
     have hT9:=Sr.o.addD (i:=w4.heap.size) (n:=if x.kind=2 then n else w4.heap.size+1) (k:=k) (x:=x) (w':=w6) hs4 (by
      by_cases hk:x.kind=2
      ·rw[if_pos hk];exact(Z8.o hk).2.1
      ·rw[if_neg hk];omega) (by
      by_cases hk:x.kind=2
      ·rw[if_pos hk];have:=(Z8.o hk).2.2;omega
      ·rw[if_neg hk];omega) (by omega) (fun hk=>by
      rw[if_pos hk];have:=(Z8.o hk).2.2;omega) (by rw[Ad,if_pos HLF.o]) SL.o (by omega) hnew hi9
     rw[Ll HT.o.sorted HY.o HLF.o]at hT9;refine⟨_,cnt1,_,_,_,Rx,hT9,?_,?_⟩
     ·intro b hb;by_cases h1:b=w4.heap.size
      ·omega
      ·simp only[if_neg h1]at hb;by_cases h2:b=(if x.kind=2 then n else w4.heap.size+1)∧x.kind=2
       ·have h3:=Z8.o h2.2;rw[if_pos h2.2]at h2;have h4:w3.heap.size≤n:=h3.2.1;omega
       ·rw[if_neg h2]at hb;exact Gs.o b hb
     ·refine HB3.o.trans ⟨?_,?_,?_,by omega,fun b hb=>hnew b (by have:=HB3.o.size;omega) (by omega)⟩
      ·exact(fJ BM.o).os.trans Pf.os
      ·exact(fJ BM.o).tape.trans Pf.tape
      ·exact(fJ BM.o).output.trans Pf.output
    case measure=>
     rw[Rx.measure,HR.o.measure];exact Ah.o
end
theorem FD{S S':Nat→Prop}(a a':Option Addr)(len cap len' cap':Nat)(ss ss':List ByteArray)(w:World)(h:aK S w a len ss)(h':aK S' w a' len' ss'):
  Calls Tryz.prog 193 #[.slice a len cap,.slice a' len' cap'] w fun e w'=>e= .returned (.bool (decide (ss=ss')))∧Below w.heap.size w w':=by
 have hl:=h.length;have hl':=h'.length;have hm:=h.row.small;have hm':=h'.row.small;unfold maxLen at hm hm';by_cases hne:len=len'
 ·subst hne;by_cases h0:len=0
  ·subst h0;refine(Tryz.slices_Equal_string_empty a a' cap 0 cap' w (by omega)).mono ?_;rintro e w' ⟨rfl,rfl⟩;obtain rfl:ss=[]:=by simpa using hl
   obtain rfl:ss'=[]:=by simpa using hl'
   exact⟨rfl,Below.refl _ _⟩
  ·obtain⟨b,off,rfl,_,_,_⟩:=h.row.at_ (by omega);obtain⟨b',off',rfl,_,_,_⟩:=h'.row.at_ (by omega);refine(Tryz.slices_Equal_string b off len cap b' off' len cap' ss ss' w (by omega) (by omega) (by omega) (by omega) (fun j hj=>zX h j hj) (fun j hj=>zX h' j hj)).mono ?_;rintro e w' ⟨rfl,q,rfl⟩;rw[List.take_of_length_le (by omega),List.take_of_length_le (by omega)];exact⟨rfl,⟨rfl,rfl,rfl,Nat.le_refl _,fun _ _=>rfl⟩⟩
 ·refine(Tryz.slices_Equal_string_lens a a' len cap len' cap' w hne).mono ?_;rintro e w' ⟨rfl,rfl⟩;have:ss≠ss':=fun e=>hne (by rw[←hl,←hl',e]);exact⟨by simp[this],Below.refl _ _⟩
def mO(ss ss':List ByteArray):Bool:=decide (ss.take ss'.length=ss')
theorem Jz{S S':Nat→Prop}(a a':Option Addr)(len cap len' cap':Nat)(ss ss':List ByteArray)(w:World)(h:aK S w a len ss)(h':aK S' w a' len' ss')(hcap:len≤cap):
  Calls Tryz.prog 153 #[.slice a len cap,.slice a' len' cap'] w fun e w'=>e= .returned (.bool (mO ss ss'))∧Below w.heap.size w w':=by
 have hl:=h.length;have hl':=h'.length;have hm:=h.row.small;unfold maxLen at hm;by_cases hle:len'≤len
 ·have hT:=h.take len' hle;have hp:decide (ss.take len'=ss')=mO ss ss':=by
   unfold mO;rw[hl']
  have HP:=acA hp;clear hp hl hl';have e5:len'≤cap:=by omega
  cases a with
  |none=>
   have h0:len'=0:=by
    rcases abh len' with h0|h0
    ·exact h0
    ·obtain⟨b,off,e,_⟩:=h.row.at_ (by omega);cases e
   subst h0;go_enter Tryz.func153,Tryz.ntmps153;go_wp2_with fail;refine(FD _ _ _ _ _ _ _ _ _ hT h').mono ?_;rintro e w1 ⟨rfl,hb⟩;rw[HP.o];go_wp2_with fail;go_ret;exact⟨rfl,hb⟩
  |some ad=>
   go_enter Tryz.func153,Tryz.ntmps153;go_wp2_with fail;refine(FD _ _ _ _ _ _ _ _ _ hT h').mono ?_;rintro e w1 ⟨rfl,hb⟩;rw[HP.o];go_wp2_with fail;go_ret;exact⟨rfl,hb⟩
 ·have hp:mO ss ss'=false:=by
   unfold mO;rw[aaF];intro hh;have:=aaT List.length hh;simp at this;omega
  have HP:=acA hp;clear hp hl hl';go_enter Tryz.func153,Tryz.ntmps153;go_wp2_with fail;go_ret;exact⟨gU HP.o.symm,Below.refl _ _⟩
theorem Bg(p q:List Nm):mO (p.map strOf) (q.map strOf)=kH p q:=by
 unfold mO kH;rw[List.length_map,←aa9];have:((p.take q.length).map strOf=q.map strOf)↔p.take q.length=q:=by
  constructor
  ·intro h;have:=aaT BK h
   rwa [Fa,Fa]at this
  ·intro h;rw[h]
 simp only[this]
section
variable{g:Nat→Own}{D:Nat→Prop}{p mb:Nat}{ib nb:Int→Nat}{T:aL}
theorem JA{w w2 w3 w4:World}{d1 d2 id:Int}{n1 n2:Nm}{y:bP}(h:aO g D w p mb ib nb T)(hb:Below w.heap.size w w2)(h3:aO g D w3 p mb ib nb (aG T d1 n1)∧Keeps (fun b=>g b≠ .none) w2 w3)
  (hy:aj d2 (aG T d1 n1)=some y)(hk:y.kind=2)(hM:MapAt dZ w4 (nb d2) (dW dZ.lt n2 (.int .i64 id) (bW y)))(hT:w3.mapTurned w4 (nb d2)):Turn g D w p mb (setName (aG T d1 n1) d2 n2 id) (.int .i64 0) (.returned (.int .i64 0)) w4:=by
 have hg:=h3.1.pI d2 y hy hk;refine Turn.of rfl (h3.1.set hy hk hM hT) ((iB hb).trans (h3.2.trans ((fJ hT).mono fun b _ hb=> ?_) (fun _ _ h=>h)) (fun _ _ h=>h));rw[show b=nb d2 from hb,hg];simp
theorem Ph{S S':Nat→Prop}(a:Option Addr)(n c:Nat)(ls:List Nm)(a':Option Addr)(n' c':Nat)(ls':List Nm)(w:World)(h:aO g D w p mb ib nb T)(hO:jm T)(hS:aK S w a n (ls.map strOf))(hS':aK S' w a' n' (ls'.map strOf))(hc:n≤c)(lF:n≤1000000)(hc':n'≤c')(Dh:n'≤1000000):
  Calls Tryz.prog 80 #[ptr p,.slice a n c,.slice a' n' c'] w (Turn g D w p mb (bf T ls ls').2 (.int .i64 (bf T ls ls').1)):=by
 have HH:=acA h;have hT:=hO.1;have HT:=acA hT;have HF:=acA (Ja a n c ls a' n' c' ls' w hS hS');have mg:=acA (fun w1 (hb:Below w.heap.size w w1)=>sG a n c ls w1 (h.below hb acC) hT (hS.below hb acC));have wY:=acA (fun w1 (hb:Below w.heap.size w w1)=>wF a' n' c' ls' w1 (h.below hb acC) hT (hS'.below hb acC) hc' Dh);have Xa:=acA (fun w1 (hb:Below w.heap.size w w1)=>Jz a' a n' c' n c (ls'.map strOf) (ls.map strOf) w1 (hS'.below hb acC) (hS.below hb acC) hc');rw[Bg]at Xa;have hl':ls'.length=n':=by have:=hS'.length;simpa using this
 have HPP:=acA (fun(d:Int) (nm:Nm) (hp:aH T ls=(d,nm,0)) w1 (hb:Below w.heap.size w w1)=>C8 a n c ls w1 (h.below hb acC) hT (hS.below hb acC) hc lF hp);have SN:=acA (fun id (hi:(aj id T).isSome=true) w1 (hb:Below w.heap.size w w1)=>Js hT 8 id w1 (h.below hb acC) hi (hO.Lv id) (by omega));have HIT:=acA (fun w1 (hb:Below w.heap.size w w1)=>h.below hb acC);have LP:=acA (fun id=>(hO.Lv id).le);clear h hT hS hS' hO;obtain⟨f,hf0⟩:∃f,f=kE ls ls':=⟨_,rfl⟩;rw[←hf0]at HF;obtain⟨⟨id,e0⟩,hq⟩:∃q,q=aJ T 0 ls:=⟨_,rfl⟩;rw[←hq]at mg;obtain⟨⟨d,nm,z⟩,hq2⟩:∃q,q=aH T ls':=⟨_,rfl⟩;unfold qJ at wY;rw[←hq2]at wY
 have IC:acB (jN T ls ls'=if f≠0 then f else if e0≠0 then e0 else if id=0 then 1 else if z≠0 then z else if dL T id=2∧kH ls' ls=true then 1 else
   match aj nm (bJ T d)with
   |some k=>if k=id then 0 else 21
   |none=>if 8<ls'.length+jl T 8 id then 3 else 0):=by
  unfold jN;rw[←hf0,←hq,←hq2]<;>exact rfl
 have FE:acB (∀k,jN T ls ls'=k→k≠0→bf T ls ls'=(k,T)):=fun k hk h0=>by
  unfold bf;rw[hk,if_neg (fun h=>h0 h.1)]
 have Z9:=acA hf0;have HQ:=acA hq;have Rw:=acA hq2;clear hf0 hq hq2;go_enter Tryz.func80,Tryz.ntmps80;go_wp2_with fail;refine HF.o.mono ?_;rintro e w1 ⟨rfl,hb1⟩;have HB1:=acA hb1;clear hb1;by_cases hf:f=0
 ·subst hf;go_wp2_with fail;refine(mg.o w1 HB1.o).mono ?_;rintro e w2 ⟨rfl,rfl⟩;by_cases he:e0=0
  ·subst he;by_cases sO:id=0
   ·have HM:acB (bf T ls ls'=(1,T)):=FE.o 1 (by rw[IC.o,if_neg (by simp),if_neg (by simp),if_pos sO]) (by decide);subst sO;go_wp2_with fail;go_ret;rw[HM.o];exact Turn.same HH.o HB1.o rfl
   ·have hid1:(id==0)=false:=by simpa using sO
    have Jr:=acA sO;clear sO;go_wp2_with fail;refine(wY.o w1 HB1.o).mono ?_;rintro e w2 ⟨rfl,hb2⟩;have HB2:=acA (HB1.o.trans (hb2.mono HB1.o.size));clear hb2;by_cases hz:z=0
    ·subst hz
     (first|rw[if_pos rfl]|rw[if_pos trivial])
     have hfz:=qM Z9.o.symm;obtain⟨x,hx,hxk,hnm⟩:=je HT.o (p:=ls') (by rw[←Rw.o]);rw[←Rw.o]at hx hnm;have hgn:=jT hfz.2 _ hnm;have nH:=Sq hgn;obtain⟨y,hy⟩:=aaf.1 (qL HQ.o.symm HT.o);have rY:=HT.o.ids id y hy;have hok:bY.ok id:=jU rY.1 (by omega);have HG:acB (aj id (T.map fun q=>(q.1,ptr (ib q.1)))=some (ptr (ib id))):=by rw[fG,hy];rfl
     have HX:=acA hx;have Ba:=acA hxk;have HY:=acA hy;have I9:=acA hgn;have HFZ:=acA hfz;have hA2:=HIT.o w2 HB2.o;obtain⟨d7,gy⟩:=nk hA2 hx hxk;have zZ:=acA gy;have xD:=acA hA2.map;have q0:=hA2.cell.1;obtain⟨_,c1,_⟩:=(hA2.item id y hy).cell;clear hx hxk hnm hgn hy hfz hA2 gy;have HME2:acB (jN T ls ls'=if dL T id=2∧kH ls' ls=true then 1 else match aj nm x.names with|some k=>if k=id then 0 else 21|none=>if 8<ls'.length+jl T 8 id then 3 else 0):=by
      rw[IC.o,if_neg (by simp),if_neg (by simp),if_neg Jr.o,if_neg (by simp),fU HX.o];exact rfl
     by_cases hwk:dL T id=2∧kH ls' ls=true
     ·have HM:acB (bf T ls ls'=(1,T)):=FE.o 1 (by rw[HME2.o,if_pos hwk]) (by decide);have hk2:y.kind=2:=by rw[←dM HY.o];exact hwk.1
      have hW:=hwk.2;rw[hW]at Xa;rw[hk2]at c1;clear hwk hk2 hW;cases hj:aj nm x.names with
      |none=>
       have Bb:acB (aj nm (bW x)=none):=by rw[fP,hj];rfl
       clear hj;go_wp2_with (first|(at_lookup;refine aU dZ rfl _ _ 136 3 rfl aam (Tryz.iY _) rfl zZ.o nm rfl nH ?_;rw[Bb.o])|(at_lookup;refine aY bY rfl _ _ 104 102 rfl Tryz.underlying104 (Tryz.bF _) rfl xD.o id rfl hok ?_;rw[HG.o]));refine(Xa.o w2 HB2.o).mono ?_;rintro e w3 ⟨rfl,hb3⟩;have HB3:=acA (HB2.o.trans (hb3.mono HB2.o.size));clear hb3;go_wp2_with fail;go_ret;rw[HM.o];exact Turn.same HH.o HB3.o rfl
      |some j=>
       have Bb:acB (aj nm (bW x)=some (.int .i64 j)):=by rw[fP,hj];rfl
       clear hj;go_wp2_with (first|(at_lookup;refine aU dZ rfl _ _ 136 3 rfl aam (Tryz.iY _) rfl zZ.o nm rfl nH ?_;rw[Bb.o])|(at_lookup;refine aY bY rfl _ _ 104 102 rfl Tryz.underlying104 (Tryz.bF _) rfl xD.o id rfl hok ?_;rw[HG.o]));refine(Xa.o w2 HB2.o).mono ?_;rintro e w3 ⟨rfl,hb3⟩;have HB3:=acA (HB2.o.trans (hb3.mono HB2.o.size));clear hb3;go_wp2_with fail;go_ret;rw[HM.o];exact Turn.same HH.o HB3.o rfl
     ·have uV:acB (jN T ls ls'=match aj nm x.names with|some k=>if k=id then 0 else 21|none=>if 8<ls'.length+jl T 8 id then 3 else 0):=by
       rw[HME2.o,if_neg hwk];exact rfl
      by_cases hk2:y.kind=2
      ·have hW:kH ls' ls=false:=by
        cases hw:kH ls' ls with
        |false=>rfl
        |true=>exact absurd ⟨(dM HY.o).trans hk2,hw⟩ hwk
       rw[hW]at Xa;rw[hk2]at c1;clear hwk hk2 hW;cases hj:aj nm x.names with
       |some j=>
        have Bb:acB (aj nm (bW x)=some (.int .i64 j)):=by rw[fP,hj];rfl
        have Z_:acB ((aj nm x.names).isSome=true):=by rw[hj];exact rfl
        rw[hj]at uV;clear hj;by_cases hji:j=id
        ·rw[hji]at Bb uV;clear hji;have HM:acB (bf T ls ls'=(0,T)):=by
          unfold bf;rw[←Rw.o,fU HX.o,Z_.o,uV.o];simp only[if_pos,if_neg,and_false,ab0,if_false]
          first|exact rfl|exact trivial
         go_wp2_with (first|(at_lookup;refine aU dZ rfl _ _ 136 3 rfl aam (Tryz.iY _) rfl zZ.o nm rfl nH ?_;rw[Bb.o])|(at_lookup;refine aY bY rfl _ _ 104 102 rfl Tryz.underlying104 (Tryz.bF _) rfl xD.o id rfl hok ?_;rw[HG.o]));refine(Xa.o w2 HB2.o).mono ?_;rintro e w3 ⟨rfl,hb3⟩;have HB3:=acA (HB2.o.trans (hb3.mono HB2.o.size));clear hb3;go_wp2_with fail;go_ret;rw[HM.o];exact Turn.same HH.o HB3.o rfl
        ·have hne:(j==id)=false:=by simpa using hji
         have HM:acB (bf T ls ls'=(21,T)):=FE.o 21 (by rw[uV.o];simp only[if_neg hji]) (by decide);clear hji;go_wp2_with (first|(at_lookup;refine aU dZ rfl _ _ 136 3 rfl aam (Tryz.iY _) rfl zZ.o nm rfl nH ?_;rw[Bb.o])|(at_lookup;refine aY bY rfl _ _ 104 102 rfl Tryz.underlying104 (Tryz.bF _) rfl xD.o id rfl hok ?_;rw[HG.o]));refine(Xa.o w2 HB2.o).mono ?_;rintro e w3 ⟨rfl,hb3⟩;have HB3:=acA (HB2.o.trans (hb3.mono HB2.o.size));clear hb3;go_wp2_with fail;go_ret;rw[HM.o];exact Turn.same HH.o HB3.o rfl
       |none=>
        have Bb:acB (aj nm (bW x)=none):=by rw[fP,hj];rfl
        have HJ:=acA hj;rw[hj]at uV;clear hj;have SQ:=qy HFZ.o.2;have hdd:=LP.o id;have V_:=acA (SN.o id (by rw[HY.o];rfl));unfold xQ at V_;generalize jl T 8 id=dd at uV V_ hdd;rw[hl']at uV SQ;have e1:IntKind.i64.wrap ((n':Int)+(dd:Int))=(n':Int)+(dd:Int):=aak _ (by omega);by_cases hdp:8<n'+dd
        ·have HM:acB (bf T ls ls'=(3,T)):=FE.o 3 (by rw[uV.o];simp only[if_pos hdp]) (by decide);have hd1:decide ((8:Int)<(n':Int)+(dd:Int))=true:=by simp only[aal];omega
         clear hdp;go_wp2_with (first|(at_lookup;refine aU dZ rfl _ _ 136 3 rfl aam (Tryz.iY _) rfl zZ.o nm rfl nH ?_;rw[Bb.o])|(at_lookup;refine aY bY rfl _ _ 104 102 rfl Tryz.underlying104 (Tryz.bF _) rfl xD.o id rfl hok ?_;rw[HG.o]));refine(Xa.o w2 HB2.o).mono ?_;rintro e w3 ⟨rfl,hb3⟩;have HB3:=acA (HB2.o.trans (hb3.mono HB2.o.size));clear hb3;go_wp2_with fail;refine(V_.o w3 HB3.o).mono ?_;rintro e w4 ⟨rfl,hb4⟩;have dY:=acA (HB3.o.trans (hb4.mono HB3.o.size));clear hb4;go_wp2_with fail;go_ret;rw[HM.o];exact Turn.same HH.o dY.o rfl
        ·have hd1:decide ((8:Int)<(n':Int)+(dd:Int))=false:=by simp only[aaF];omega
         have hpn:ls≠[]:=fun e=>by
          have h1:id=0:=aaT Prod.fst (HQ.o.trans (by rw[e]<;>exact(rfl:aJ T 0 []=(0,0))));exact Jr.o h1
         obtain⟨d1,x1,n1,ep,-,hx1,GL,hn1,JB,-⟩:=dx HQ.o.symm hpn;have SS:=Sq (jT HFZ.o.1 _ JB);have HPO:=acA (HPP.o d1 n1 ep);have NR:=acA hx1;have LQ:=acA GL;have Al:=acA hn1;have HM:acB (bf T ls ls'=(0,setName (aG T d1 n1) d nm id)):=by
          have h0:jN T ls ls'=0:=by rw[uV.o];simp only[if_neg hdp]
          have h1:(aj nm (bJ T d)).isSome=false:=by rw[fU HX.o,HJ.o];rfl
          unfold bf sM;rw[←Rw.o,←HQ.o,ep,h0];simp only[h1,and_self,if_true]
          first|exact rfl|exact trivial
         have hc3:∃x3,aj d (aG T d1 n1)=some x3∧x3.kind=2∧aj nm x3.names=none:=by
          unfold aG;rw[aW];by_cases hd:d=d1
          ·subst hd;have h2:=NR.o;rw[HX.o]at h2;cases h2;rw[if_pos rfl,HX.o];refine⟨_,rfl,Ba.o,?_⟩;show aj nm (bS n1 x.names)=none;rw[fF];split
           ·rfl
           ·exact HJ.o
          ·rw[if_neg hd];exact⟨x,HX.o,Ba.o,HJ.o⟩
         obtain⟨x3,hx3,SV,-⟩:=hc3;have HX3:=acA hx3;have SX:=acA SV;have tX:(bW x3).length<maxLen:=by
          have h1:=(HT.o.toBJ.cut (n:=n1) NR.o LQ.o);have h2:x3.names.length≤x.names.length:=by
           have h3:=HX3.o;unfold aG at h3;rw[aW,HX.o]at h3;split at h3
           ·simp only[aat,aac]at h3;rw[←h3];exact aaY _ _
           ·simp only[aac]at h3;rw[h3];exact Nat.le_refl _
          have h4:=HT.o.few HX.o;unfold bW maxLen;rw[List.length_map];omega
         have ZN:=acA tX;clear hdp hpn ep hx1 GL hn1 JB hx3 SV tX;go_wp2_with (first|(at_lookup;refine aU dZ rfl _ _ 136 3 rfl aam (Tryz.iY _) rfl zZ.o nm rfl nH ?_;rw[Bb.o])|(at_lookup;refine aY bY rfl _ _ 104 102 rfl Tryz.underlying104 (Tryz.bF _) rfl xD.o id rfl hok ?_;rw[HG.o]));refine(Xa.o w2 HB2.o).mono ?_;rintro e w3 ⟨rfl,hb3⟩;have HB3:=acA (HB2.o.trans (hb3.mono HB2.o.size));clear hb3;go_wp2_with fail;refine(V_.o w3 HB3.o).mono ?_;rintro e w4 ⟨rfl,hb4⟩;have dY:=acA (HB3.o.trans (hb4.mono HB3.o.size));clear hb4;go_wp2_with fail;refine(HPO.o w4 dY.o).mono ?_;rintro e w5 ⟨rfl,hb5⟩;have fH:=acA (dY.o.trans (hb5.mono dY.o.size));clear hb5;have Lj:=HIT.o w5 fH.o;obtain⟨d8,ze⟩:=nk Lj NR.o LQ.o;have ZQ:=acA Lj;have HNM5:=acA ze;clear Lj ze;have Ag:acB (∀w6,MapAt dZ w6 (nb d1) (bS n1 (bW x1))→w5.mapTurned w6 (nb d1)→(aO g D w6 p mb ib nb (aG T d1 n1)∧Keeps (fun b=>g b≠ .none) w5 w6)∧w6.cell? ⟨ib d,7,none⟩=some (.map (some (nb d)))∧MapAt dZ w6 (nb d) (bW x3)):=fun w6 hM WJ=>by
          have h3:=GA ZQ.o NR.o LQ.o hM WJ;exact⟨h3,nk h3.1 HX3.o SX.o⟩
         go_wp2_with (first|(at_delete;refine mo dZ rfl _ _ 136 3 rfl aam rfl HNM5.o n1 rfl SS ?_;intro w6 Pg W_;obtain⟨hA6,d9,SY⟩:=Ag.o w6 Pg W_;have HA6:=acA hA6;have HNM6:=acA SY;clear hA6 Pg W_ SY)|(at_mapUpdate;refine pY dZ rfl _ _ _ 136 3 rfl aam rfl HNM6.o ZN.o nm (.int .i64 id) rfl rfl nH ?_;intro w7 hM7 hT7;have Wd:=acA hM7;have Pj:=acA hT7;clear hM7 hT7));go_ret;rw[HM.o];exact JA HH.o fH.o HA6.o HX3.o SX.o Wd.o Pj.o
      ·have hkk:(y.kind==2)=false:=by simpa using hk2
       clear hwk hk2;cases hj:aj nm x.names with
       |some j=>
        have Bb:acB (aj nm (bW x)=some (.int .i64 j)):=by rw[fP,hj];rfl
        have Z_:acB ((aj nm x.names).isSome=true):=by rw[hj];exact rfl
        rw[hj]at uV;clear hj;by_cases hji:j=id
        ·rw[hji]at Bb uV;clear hji;have HM:acB (bf T ls ls'=(0,T)):=by
          unfold bf;rw[←Rw.o,fU HX.o,Z_.o,uV.o];simp only[if_pos,if_neg,and_false,ab0,if_false]
          first|exact rfl|exact trivial
         go_wp2_with (first|(at_lookup;refine aU dZ rfl _ _ 136 3 rfl aam (Tryz.iY _) rfl zZ.o nm rfl nH ?_;rw[Bb.o])|(at_lookup;refine aY bY rfl _ _ 104 102 rfl Tryz.underlying104 (Tryz.bF _) rfl xD.o id rfl hok ?_;rw[HG.o]));go_ret;rw[HM.o];exact Turn.same HH.o HB2.o rfl
        ·have hne:(j==id)=false:=by simpa using hji
         have HM:acB (bf T ls ls'=(21,T)):=FE.o 21 (by rw[uV.o];simp only[if_neg hji]) (by decide);clear hji;go_wp2_with (first|(at_lookup;refine aU dZ rfl _ _ 136 3 rfl aam (Tryz.iY _) rfl zZ.o nm rfl nH ?_;rw[Bb.o])|(at_lookup;refine aY bY rfl _ _ 104 102 rfl Tryz.underlying104 (Tryz.bF _) rfl xD.o id rfl hok ?_;rw[HG.o]));go_ret;rw[HM.o];exact Turn.same HH.o HB2.o rfl
       |none=>
        have Bb:acB (aj nm (bW x)=none):=by rw[fP,hj];rfl
        have HJ:=acA hj;rw[hj]at uV;clear hj;have SQ:=qy HFZ.o.2;have hdd:=LP.o id;have V_:=acA (SN.o id (by rw[HY.o];rfl));unfold xQ at V_;generalize jl T 8 id=dd at uV V_ hdd;rw[hl']at uV SQ;have e1:IntKind.i64.wrap ((n':Int)+(dd:Int))=(n':Int)+(dd:Int):=aak _ (by omega);by_cases hdp:8<n'+dd
        ·have HM:acB (bf T ls ls'=(3,T)):=FE.o 3 (by rw[uV.o];simp only[if_pos hdp]) (by decide);have hd1:decide ((8:Int)<(n':Int)+(dd:Int))=true:=by simp only[aal];omega
         clear hdp;go_wp2_with (first|(at_lookup;refine aU dZ rfl _ _ 136 3 rfl aam (Tryz.iY _) rfl zZ.o nm rfl nH ?_;rw[Bb.o])|(at_lookup;refine aY bY rfl _ _ 104 102 rfl Tryz.underlying104 (Tryz.bF _) rfl xD.o id rfl hok ?_;rw[HG.o]));refine(V_.o w2 HB2.o).mono ?_;rintro e w4 ⟨rfl,hb4⟩;have dY:=acA (HB2.o.trans (hb4.mono HB2.o.size));clear hb4;go_wp2_with fail;go_ret;rw[HM.o];exact Turn.same HH.o dY.o rfl
        ·have hd1:decide ((8:Int)<(n':Int)+(dd:Int))=false:=by simp only[aaF];omega
         have hpn:ls≠[]:=fun e=>by
          have h1:id=0:=aaT Prod.fst (HQ.o.trans (by rw[e]<;>exact(rfl:aJ T 0 []=(0,0))));exact Jr.o h1
         obtain⟨d1,x1,n1,ep,-,hx1,GL,hn1,JB,-⟩:=dx HQ.o.symm hpn;have SS:=Sq (jT HFZ.o.1 _ JB);have HPO:=acA (HPP.o d1 n1 ep);have NR:=acA hx1;have LQ:=acA GL;have Al:=acA hn1;have HM:acB (bf T ls ls'=(0,setName (aG T d1 n1) d nm id)):=by
          have h0:jN T ls ls'=0:=by rw[uV.o];simp only[if_neg hdp]
          have h1:(aj nm (bJ T d)).isSome=false:=by rw[fU HX.o,HJ.o];rfl
          unfold bf sM;rw[←Rw.o,←HQ.o,ep,h0];simp only[h1,and_self,if_true]
          first|exact rfl|exact trivial
         have hc3:∃x3,aj d (aG T d1 n1)=some x3∧x3.kind=2∧aj nm x3.names=none:=by
          unfold aG;rw[aW];by_cases hd:d=d1
          ·subst hd;have h2:=NR.o;rw[HX.o]at h2;cases h2;rw[if_pos rfl,HX.o];refine⟨_,rfl,Ba.o,?_⟩;show aj nm (bS n1 x.names)=none;rw[fF];split
           ·rfl
           ·exact HJ.o
          ·rw[if_neg hd];exact⟨x,HX.o,Ba.o,HJ.o⟩
         obtain⟨x3,hx3,SV,-⟩:=hc3;have HX3:=acA hx3;have SX:=acA SV;have tX:(bW x3).length<maxLen:=by
          have h1:=(HT.o.toBJ.cut (n:=n1) NR.o LQ.o);have h2:x3.names.length≤x.names.length:=by
           have h3:=HX3.o;unfold aG at h3;rw[aW,HX.o]at h3;split at h3
           ·simp only[aat,aac]at h3;rw[←h3];exact aaY _ _
           ·simp only[aac]at h3;rw[h3];exact Nat.le_refl _
          have h4:=HT.o.few HX.o;unfold bW maxLen;rw[List.length_map];omega
         have ZN:=acA tX;clear hdp hpn ep hx1 GL hn1 JB hx3 SV tX;go_wp2_with (first|(at_lookup;refine aU dZ rfl _ _ 136 3 rfl aam (Tryz.iY _) rfl zZ.o nm rfl nH ?_;rw[Bb.o])|(at_lookup;refine aY bY rfl _ _ 104 102 rfl Tryz.underlying104 (Tryz.bF _) rfl xD.o id rfl hok ?_;rw[HG.o]));refine(V_.o w2 HB2.o).mono ?_;rintro e w4 ⟨rfl,hb4⟩;have dY:=acA (HB2.o.trans (hb4.mono HB2.o.size));clear hb4;go_wp2_with fail;refine(HPO.o w4 dY.o).mono ?_;rintro e w5 ⟨rfl,hb5⟩;have fH:=acA (dY.o.trans (hb5.mono dY.o.size));clear hb5;have Lj:=HIT.o w5 fH.o;obtain⟨d8,ze⟩:=nk Lj NR.o LQ.o;have ZQ:=acA Lj;have HNM5:=acA ze;clear Lj ze;have Ag:acB (∀w6,MapAt dZ w6 (nb d1) (bS n1 (bW x1))→w5.mapTurned w6 (nb d1)→(aO g D w6 p mb ib nb (aG T d1 n1)∧Keeps (fun b=>g b≠ .none) w5 w6)∧w6.cell? ⟨ib d,7,none⟩=some (.map (some (nb d)))∧MapAt dZ w6 (nb d) (bW x3)):=fun w6 hM WJ=>by
          have h3:=GA ZQ.o NR.o LQ.o hM WJ;exact⟨h3,nk h3.1 HX3.o SX.o⟩
         go_wp2_with (first|(at_delete;refine mo dZ rfl _ _ 136 3 rfl aam rfl HNM5.o n1 rfl SS ?_;intro w6 Pg W_;obtain⟨hA6,d9,SY⟩:=Ag.o w6 Pg W_;have HA6:=acA hA6;have HNM6:=acA SY;clear hA6 Pg W_ SY)|(at_mapUpdate;refine pY dZ rfl _ _ _ 136 3 rfl aam rfl HNM6.o ZN.o nm (.int .i64 id) rfl rfl nH ?_;intro w7 hM7 hT7;have Wd:=acA hM7;have Pj:=acA hT7;clear hM7 hT7));go_ret;rw[HM.o];exact JA HH.o fH.o HA6.o HX3.o SX.o Wd.o Pj.o
    ·have HM:acB (bf T ls ls'=(z,T)):=FE.o z (by rw[IC.o,if_neg (by simp),if_neg (by simp),if_neg Jr.o,if_pos hz]) hz;have hne:(z==0)=false:=by simpa using hz
     have hne2:(z !=0)=true:=by simpa using hz
     rw[if_neg hz];clear hz;go_wp2_with fail;go_ret;rw[HM.o];exact Turn.same HH.o HB2.o rfl
  ·have HM:acB (bf T ls ls'=(e0,T)):=FE.o e0 (by rw[IC.o,if_neg (by simp),if_pos he]) he;have hne:(e0==0)=false:=by simpa using he
   have hne2:(e0 !=0)=true:=by simpa using he
   clear he;go_wp2_with fail;go_ret;rw[HM.o];exact Turn.same HH.o HB1.o rfl
 ·have HM:acB (bf T ls ls'=(f,T)):=FE.o f (by rw[IC.o,if_pos hf]) hf;have hne:(f==0)=false:=by simpa using hf
  have hne2:(f !=0)=true:=by simpa using hf
  clear hf;go_wp2_with fail;go_ret;rw[HM.o];exact Turn.same HH.o HB1.o rfl
end
end Go.Proofs.YtjnhnlabpccgjaaGreatDoor
