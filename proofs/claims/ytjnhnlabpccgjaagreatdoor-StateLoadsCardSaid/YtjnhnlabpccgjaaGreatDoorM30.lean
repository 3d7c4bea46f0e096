/- The -/
import Derived.Test.YtjnhnlabpccgjaaGreatDoorM27
import Derived.Test.YtjnhnlabpccgjaaGreatDoorM29
import Derived.Test.YtjnhnlabpccgjaaGreatDoorM18
set_option maxRecDepth 100000
set_option maxHeartbeats 64000000
set_option linter.all false
namespace Go.Proofs.YtjnhnlabpccgjaaGreatDoor
open Go.ChangeShapes Go.WideShapes Go.ChangeAt Go.RowKit
theorem vN{T:aA}{id:Int}{bs:List UInt8}{v:Int}(h:lG T id bs=v)(hv:v≠0):cK T id bs=(v,T):=by
 unfold cK;rw[h,if_neg hv]
structure D_(F:Nat→Prop)(w:World)(r:Nat)(x2:Value)(T:aA)(D:List (List UInt8))(gN oN cN gD oD cD:Nat)(vs:List Value)(wx:World):Prop where
 keeps:Keeps (fun x=>x=r) w wx
 rlt:r<w.heap.size
 head:wx.heap[r]? =some (.cells #[.slice (some ⟨gN,oN,none⟩) T.length cN,.slice (some ⟨gD,oD,none⟩) D.length cD,x2] 113 (0,0))
 lenN:T.length≤cN
 lenD:D.length≤cD
 rowN:ah (fun b=>b=gN) wx (some ⟨gN,oN,none⟩) (T.length*6) (T.flatMap dM)
 plN:Plain wx (some ⟨gN,oN,none⟩)
 X5:ah (fun b=>b=gD) wx (some ⟨gD,oD,none⟩) D.length vs
 plD:Plain wx (some ⟨gD,oD,none⟩)
 newN:w.heap.size≤gN∧gN<wx.heap.size
 newD:w.heap.size≤gD∧gD<wx.heap.size
 ne:gN≠gD
 each:Each (fun b=>(F b∧b<w.heap.size∧b≠r)∨(w.heap.size≤b∧b<wx.heap.size∧b≠gN∧b≠gD)) wx vs D
def Cz(F:Nat→Prop)(w:World)(r:Nat)(x2:Value)(T:aA)(D:List (List UInt8))(wx:World):Prop:=∃gN oN cN gD oD cD vs,D_ F w r x2 T D gN oN cN gD oD cD vs wx
theorem X6{F:Nat→Prop}{w w1 w2:World}{r n c:Nat}{x1 x2:Value}{T:aA}{D:List (List UInt8)}{a:Option Addr}{vs:List Value}(hm:bW w r x1 x2 T w1)(hT:0<T.length)(hn:0<n)(hD:D.length=n)(hb:Below w1.heap.size w1 w2)
  (hown:w2.ownsRow w1.heap.size 28 1 (.slice a (0+n) c) (0+n) ([]++vs))(hmx:(0+n)*1≤maxLen)(he:Each (Off F r) w vs D)(hlow:∀b,F b→b<w.heap.size):Cz F w r x2 T D (w2.setCell ⟨r,1,none⟩ (.slice a n c)):=by
 obtain⟨hK,hr,aN,cN,h2,h3,h4,h5⟩:=hm;have hs1:=hK.size;have hs2:=hb.size;obtain⟨-,hcc,-,hrow⟩:=ah.nX hown hmx;rw[Nat.zero_add]at hcc;rw[Nat.zero_add,aaK,List.nil_append]at hrow;obtain⟨gN,oN,rfl,hFN,hbN,-⟩:=h4.at_ (by omega);obtain⟨gD,oD,rfl,hFD,hbD,-⟩:=hrow.at_ (by omega);have hp:=mo hown;have hFN1:=hFN.1;have hFD1:=hFD.1;have hgNr:gN≠r:=by omega
 have hgDr:gD≠r:=by omega
 have hrN:ah (fun b=>b=gN) w1 (some ⟨gN,oN,none⟩) (T.length*6) (T.flatMap dM):=⟨h4.length,h4.small,fun h0=>by
  obtain⟨b,o,e,_,hb',hc'⟩:=h4.at_ h0;simp only[Pd,aaQ,aaI]at e;obtain⟨rfl,rfl⟩:=e;exact⟨_,_,rfl,rfl,hb',hc'⟩⟩
 have hrD:ah (fun b=>b=gD) w2 (some ⟨gD,oD,none⟩) n vs:=⟨hrow.length,hrow.small,fun h0=>by
  obtain⟨b,o,e,_,hb',hc'⟩:=hrow.at_ h0;simp only[Pd,aaQ,aaI]at e;obtain⟨rfl,rfl⟩:=e;exact⟨_,_,rfl,rfl,hb',hc'⟩⟩
 have hDn:=hD;have hK2:Keeps (fun x=>x=r) w w2:=hK.trans (Keeps.below hb) (fun x hx hf=>by omega);refine⟨gN,oN,cN,gD,oD,c,vs,⟨hK2.trans (Keeps.gI _ _ _) fun x _ hx=>hx,hr,?_,h3,by rw[hDn];exact hcc,?_,?_,?_,?_,⟨hFN1,by rw[size_set];omega⟩,⟨by omega,by rw[size_set];exact hbD⟩,by omega,?_⟩⟩
 ·rw[aO ((hb.block r (by omega)).trans h2),hDn];rfl
 ·exact(hrN.below hb acu).apart ⟨r,1,none⟩ _ fun b hb'=>by subst hb';exact hgNr
 ·exact(h5.kept fun g off e=>by
   simp only[Pd,aaQ,aaI]at e;obtain⟨rfl,_⟩:=e;exact hb.block _ hbN).gI _ _ rfl
 ·rw[hDn];exact hrD.apart ⟨r,1,none⟩ _ fun b hb'=>by subst hb';exact hgDr
 ·exact hp.gI _ _ rfl
 ·refine he.move (by rw[size_set];omega) fun b hb' hbw=>⟨.inl ⟨hb'.1,hbw,hb'.2⟩,?_⟩;rw[bA _ _ _ _ hb'.2];exact hK2.block b hbw hb'.2
theorem Ra{F:Nat→Prop}{w w2 u:World}{r gN oN cN gD oD cD k c n m:Nat}{x2:Value}{T:aA}{D:List (List UInt8)}{vs:List Value}{a:Option Addr}{nb:List UInt8}{ys:List Value}(h:D_ F w r x2 T D gN oN cN gD oD cD vs w2)(hk:k<D.length)(hb:Below w2.heap.size w2 u)
  (hown:u.ownsRow w2.heap.size 5 1 (.slice a m c) m ys)(hys:ys=nb.map bv∧m=nb.length∧n=m)(hmx:m*1≤maxLen):Cz F w r x2 T (D.set k nb) (u.setCell ⟨gD,oD+k,none⟩ (.slice a n c)):=by
 obtain⟨rfl,rfl,rfl⟩:=hys;have hs:=hb.size;have hs0:=h.keeps.size;have hnN:=h.newN;have hnD:=h.newD;have hne:=h.ne;have hrlt:=h.rlt;obtain⟨a',c',e,hlc,hcm⟩:=FL hown;simp only[aak,abR]at e;obtain⟨rfl,rfl⟩:=e;obtain⟨-,-,-,hrow⟩:=ah.nX hown hmx;rw[aaK]at hrow;have hK2:Keeps (fun x=>x=r) w u:=h.keeps.trans (Keeps.below hb) (fun x hx hf=>by omega);have hK3:Keeps (fun x=>x=r) w (u.setCell ⟨gD,oD+k,none⟩ (.slice a nb.length c)):=hK2.trans (fp':=fun x=>x=gD) (Keeps.gI u ⟨gD,oD+k,none⟩ _) (fun x hx hf=>by omega);refine⟨gN,oN,cN,gD,oD,cD,vs.set k (.slice a nb.length c),⟨hK3,hrlt,?_,h.lenN,by rw[aaV];exact h.lenD,?_,?_,?_,?_,⟨hnN.1,by rw[size_set];omega⟩,⟨hnD.1,by rw[size_set];omega⟩,hne,?_⟩⟩
 ·rw[bA _ _ _ _ (show r≠gD by omega),aaV];exact(hb.block r (by omega)).trans h.head
 ·exact(h.rowN.below hb acu).apart ⟨gD,oD+k,none⟩ _ fun b hb'=>by subst hb';exact hne
 ·exact(h.plN.kept fun g off e=>by
   simp only[Pd,aaQ,aaI]at e;obtain⟨rfl,_⟩:=e;exact hb.block _ hnN.2).gI _ _ rfl
 ·have:=(h.X5.below hb acu).gI (j:=k) hk (.slice a nb.length c);rw[aaV];exact this
 ·exact(h.plD.kept fun g off e=>by
   simp only[Pd,aaQ,aaI]at e;obtain⟨rfl,_⟩:=e;exact hb.block _ hnD.2).gI _ _ rfl
 ·have hvl:vs.length=D.length:=h.X5.length;intro i b hbi;by_cases hik:i=k
  ·subst hik;rw[aaY hk]at hbi;cases hbi;refine⟨a,c,aaY (by omega),⟨hlc,hcm⟩,?_⟩;exact hrow.move (by rw[size_set];exact Nat.le_refl _) fun b hb1 hb2=>⟨.inr ⟨by omega,by rw[size_set];exact hb2,by omega,by omega⟩,bA _ _ _ _ (show b≠gD by omega)⟩
  ·rw[List.getElem?_set_ne (aaT hik)]at hbi⊢;obtain⟨a2,c2,e1,e2,e3⟩:=h.each i b hbi;refine⟨a2,c2,e1,e2,e3.move (by rw[size_set];omega) fun b hb1 hb2=>⟨?_,?_⟩⟩
   ·rcases hb1 with hb1|hb1
    ·exact .inl hb1
    ·exact .inr ⟨hb1.1,by rw[size_set];omega,hb1.2.2⟩
   ·have:b≠gD:=by rcases hb1 with hb1|hb1<;>omega
    rw[bA _ _ _ _ this];exact hb.block b hb2
theorem UN{F:Nat→Prop}{w w3:World}{r gN oN cN gD oD cD k:Nat}{x0 x1 x2:Value}{T:aA}{D0 D:List (List UInt8)}{E:List jT}{vs:List Value}{q q':Int×bJ}{v3:Value}(hR:gX F w r T D0 E)(h1:w.heap[r]? =some (.cells #[x0,x1,x2] 113 (0,0)))(h:D_ F w r x2 T D gN oN cN gD oD cD vs w3)(hq:T[k]? =some q)(hv:dM q'=(dM q).set 3 v3)(v:Value):
  dS F w r (T.set k q') D E v (.returned v) (w3.setCell ⟨gN,oN+(k*6+3),none⟩ v3):=by
 have hnN:=h.newN;have hnD:=h.newD;have hne:=h.ne;have hrlt:=h.rlt;have hkl:k<T.length:=(aac.1 hq).1;obtain⟨aN,cN',aD,cD',aE,cE,g1,-,g3,g4,-,g9,g10,g11⟩:=hR.head;rw[h1]at g1;simp only[Pd,Obj.cells.injEq,Array.mk.injEq,aaU,aaI,abR]at g1;obtain⟨-,-,rfl⟩:=g1;have hK3:Keeps (fun x=>x=r) w (w3.setCell ⟨gN,oN+(k*6+3),none⟩ v3):=h.keeps.trans (fp':=fun x=>x=gN) (Keeps.gI w3 ⟨gN,oN+(k*6+3),none⟩ _) (fun x hx hf=>by omega);refine⟨rfl,hK3,hR.turn (aN:=some ⟨gN,oN,none⟩) (aD:=some ⟨gD,oD,none⟩) (cN:=cN) (cD:=cD) hK3 ?_ (by rw[aaV];exact h.lenN) h.lenD g4 ?_ ⟨vs,?_,?_⟩ (tO hK3 g10) g11⟩
 ·rw[bA _ _ _ _ (show r≠gN by omega),aaV];exact h.head
 ·have:=h.rowN.gI (j:=k*6+3) (by omega) v3;rw[Ar dM 6 gK (by omega) hv T k hq]at this;rw[aaV];exact this.mono fun b hb=>⟨.inr ⟨by omega,by rw[size_set];omega⟩,by omega⟩
 ·exact(h.X5.apart ⟨gN,oN+(k*6+3),none⟩ v3 fun b hb=>by subst hb;exact aaT hne).mono fun b hb=>⟨.inr ⟨by omega,by rw[size_set];omega⟩,by omega⟩
 ·refine h.each.move (by rw[size_set];exact Nat.le_refl _) fun b hb1 hb2=>⟨⟨?_,?_⟩,?_⟩
  ·rcases hb1 with hb1|hb1
   ·exact .inl hb1.1
   ·exact .inr ⟨hb1.1,by rw[size_set];exact hb1.2.1⟩
  ·rcases hb1 with hb1|hb1
   ·exact hb1.2.2
   ·omega
  ·exact bA _ _ _ _ (show b≠gN by rcases hb1 with hb1|hb1<;>omega)
theorem D_.facts{F:Nat→Prop}{w wx:World}{r gN oN cN gD oD cD k:Nat}{x2:Value}{T:aA}{D:List (List UInt8)}{vs:List Value}(h:D_ F w r x2 T D gN oN cN gD oD cD vs wx){d:List UInt8}(hd:D[k]? =some d):∃a c,wx.cell? ⟨r,0,none⟩=some (.slice (some ⟨gN,oN,none⟩) T.length cN)∧wx.cell? ⟨r,1,none⟩=some (.slice (some ⟨gD,oD,none⟩) D.length cD)∧wx.cell? ⟨gD,oD+k,none⟩=some (.slice a d.length c)∧ny d.length c∧ah (fun b=>(F b∧b<w.heap.size∧b≠r)∨(w.heap.size≤b∧b<wx.heap.size∧b≠gN∧b≠gD)) wx a d.length (d.map bv):=by
 obtain⟨a,c,e1,e2,e3⟩:=h.each k d hd;have hk:k<D.length:=(aac.1 hd).1;obtain⟨p0,p1,-,-⟩:=iU h.head;obtain⟨b,o,e,-,hb,hc⟩:=h.X5.at_ (by omega);simp only[Pd,aaQ,aaI]at e;obtain⟨rfl,rfl⟩:=e;exact⟨a,c,p0,p1,(hc k hk).trans e1,e2,e3⟩
section
variable{F:Nat→Prop}{r:Nat}{T:aA}
theorem info8a:(Tryz.prog.info? 5).map (fun i=>(i.zero,i.size,i.bytes))=some (some (.int .u8 0),1,1):=by kernel_rfl
theorem Kg{S:Nat→Prop}(id:Int)(ab:Option Addr)(nb cb:Nat)(bs:List UInt8)(w:World)(h:jC F w r T)(hT:dZ T)(hbs:ah S w ab nb (bs.map bv))(hSr:∀b,S b→b≠r)(hnb:nb≤1000000):
  Calls Tryz.prog 107 #[ptr r,.int .i64 id,.slice ab nb cb] w (bS F w r (cK T id bs).2 (.int .i64 (cK T id bs).1)):=by
 have hbl:bs.length=nb:=by have:=hbs.length;simpa using this
 have HF:=acr (sF id w h hT.towP);have hr0:=h.low r h.own;have HH:=acr h;by_cases h0:dG T id=0
 ·obtain⟨x,hx,hk⟩:∃x,aj id T=some x∧x.kind≠2:=by
   unfold dG at h0;cases hx:aj id T with
   |none=>rw[hx]at h0;cases h0
   |some x=>
    rw[hx]at h0;exact⟨x,rfl,fun hk=>by simp[hk]at h0⟩
  obtain⟨k,hi,hq⟩:=lC hT.sorted hx;have hrf:JZ T id=k:=by unfold JZ;rw[if_pos h0];exact hi
  rw[hrf,h0]at HF;obtain⟨bN,oN,cN,hc0,hO,hbw,hkl,c0,c1,c2,c3,c4,c5⟩:=h.node hq;simp only at c0 c1 c2 c3 c4 c5;have i0:(0:Int)≤k:=by omega
  have hlen:=hT.len;have Gm:=acr hq;have HS:=acr hT.sorted;obtain⟨i6,a6,b6,s6,d6⟩:=aam nodeInfo;have kQ:=acr (And.intro a6 (And.intro b6 (And.intro s6 d6)));obtain⟨aN,cN',aD,cD,aE,cE,h1,h2,h3,h4,h8,h9,h10,h11⟩:=h.head;obtain⟨p0,p1,p2,pf⟩:=iU h1;rw[p0]at hc0;simp only[Pd,aak,abR]at hc0;obtain⟨rfl,rfl⟩:=hc0;have Ab:=acr h1;have ZI:=acr hbs;have Cw:=acr h8;obtain⟨n,hn⟩:∃n,n=T.length:=⟨_,rfl⟩;rw[←hn]at p0 hlen hkl h2 Cw;have jY:=acr hn;have hf0:=pf 0;have hfp:=hO.2;have i1:(k:Int)<n:=by omega
  have hrw:=hr0;have hsz:=(hT.each id x hx).size;have HLOW:=acr h.low;obtain⟨vs,hv,Ke⟩:=h9;have wI:=acr (hT.each id x hx);have HX:=acr hx;have hkx:=hk;clear a6 b6 s6 d6 h1 h8 h10 h11 hi hrf h hq hn p1 p2 pf hO hT h0 hbs;have he:lG T id bs=if x.closed then 27 else if 4096<x.b.length+bs.length then 15 else 0:=by
   unfold lG;rw[hx];simp only[if_neg hk]
  rw[hbl]at he;obtain⟨l,hl⟩:∃l,l=x.b.length:=⟨_,rfl⟩;rw[←hl]at he hsz c3;have N_:=acr hbl;have Ho:=acr hl;have HV:=acr hv;have ZU:acs (Each (Off F r) w vs (T.map fun q=>q.2.b)):=Ke;have HVL:=acr hv.length;have kG:=acr hSr;clear hx hk hl hv Ke hbl hSr;cases hcl:x.closed with
  |true=>
   rw[hcl]at c5;have HQ:=acr (vN (he.trans (if_pos hcl)) (by omega));clear hcl he;go_enter Tryz.func107,Tryz.ntmps107;go_wp2_with fail;refine HF.o.mono ?_;rintro e w1 ⟨rfl,rfl⟩;go_wp2_with fail;go_ret;exact bS.no HH.o acv HQ.o
  |false=>
   rw[hcl]at c5;rw[if_neg (by rw[hcl];decide)]at he;have e1:IntKind.i64.wrap (4096-(l:Int))=4096-(l:Int):=aag _ (by omega);by_cases h6:4096<l+nb
   ·have HQ:=acr (vN (he.trans (if_pos h6)) (by omega));have hd6:decide ((4096:Int)-(l:Int)<(nb:Int))=true:=by simp;omega
    clear hcl he;go_enter Tryz.func107,Tryz.ntmps107;go_wp2_with fail;refine HF.o.mono ?_;rintro e w1 ⟨rfl,rfl⟩;go_wp2_with fail;go_ret;exact bS.no HH.o acv HQ.o
   ·have hd6:decide ((4096:Int)-(l:Int)<(nb:Int))=false:=by simp;omega
    have HQ:acs (cK T id bs=(0,bC id (fun x=>{x with b:=x.b++bs}) T)):=by
     show cK T id bs=_;unfold cK;rw[he,if_neg h6];rfl
    clear hcl he;go_enter Tryz.func107,Tryz.ntmps107;go_wp2_with fail;refine HF.o.mono ?_;rintro e w1 ⟨rfl,rfl⟩;go_upto_region 8 with(fail)
    go_cut [] (fun wx=>bW w r (.slice aD (List.map (fun q:Int×bJ=>q.2.b) T).length cD) (.slice aE (aW T).length cE) T wx)
    case first=>
     go_wp2_with ((at_builtin;refine gL rfl _ _ 110 rfl w.heap.size 39 _ _ 6 48 Tryz.underlying110 kQ.o.1 kQ.o.2.1 kQ.o.2.2.1 kQ.o.2.2.2 rfl (by omega) _ 0 [] rfl (fT (MapKept.heap_alloc w _).1 acu) _ n _ (T.flatMap dM) rfl (Cw.o.below (acv.alloc acu _) acu) (g_ _) (by unfold maxLen;omega) (by omega) (by simp) ?_;intro A1 c1' w1 hown1 hb1;have hB1:=((Below.refl w.heap.size w).alloc acu _).trans hb1;have hf1:w1.frozen? ⟨r,0,none⟩=false:=(hB1.frozen (p:=⟨r,0,none⟩) hrw).trans hf0;have X3:=(hB1.cell (p:=⟨r,0,none⟩) hrw).trans p0))
     go_meet
     obtain⟨-,hcc,-,hrow2⟩:=pF (w:=w) hown1 (by unfold maxLen;omega) acu;have hn:=jY.o;rw[List.nil_append,Nat.zero_add,hn]at hrow2;rw[Nat.zero_add,hn]at hcc;have:=bW.mk_ hrw Ab.o hB1 hcc hrow2 (mo hown1);rw[←hn]at this;exact this
    case rest=>
     obtain⟨w1,rfl⟩:∃w1:World,w1=wc:=⟨_,rfl⟩;have hnpos:0<n:=by omega
     have Ck:acs ((List.map (fun q:Int×bJ=>q.2.b) T).length=n):=by
      show _=_;rw[List.length_map];exact jY.o.symm
     obtain⟨g,off,c,q0,s1,-,hlc,qf,hgr,hg1,hg2,hr1,gf,d0,d1,d2,d3,d4,d5⟩:=hcut.facts Gm.o;rw[Ck.o]at s1;have qf1:=qf 1;have HV1:acs (ah (Off (Grow F w w1) r) w1 aD (n*1) vs):=by
      have:=tO hcut.1 HV.o;rw[Ck.o]at this;rw[aaK];exact this
     have HVO:acs (∀u∈vs,u.oneCell'=true):=Each.one ZU.o HVL.o;obtain⟨i1,a1,b1,u1,t1⟩:=aam zo;have HI1:=acr (And.intro a1 (And.intro b1 (And.intro u1 t1)));have HM:=acr hcut;clear hcut qf gf hlc q0 d0 d1 d2 d3 d4 d5 hgr hg1 hg2 a1 b1 u1 t1;go_upto_region 9 with(fail)
     go_cut [] (fun wx=>Cz F w r (.slice aE (aW T).length cE) T (List.map (fun q:Int×bJ=>q.2.b) T) wx)
     case first=>
      go_wp2_with ((at_builtin;refine gL rfl _ _ 46 rfl w1.heap.size 28 _ _ 1 24 Tryz.underlying46 HI1.o.1 HI1.o.2.1 HI1.o.2.2.1 HI1.o.2.2.2 rfl (by omega) _ 0 [] rfl (fT (MapKept.heap_alloc w1 _).1 acu) _ n _ vs rfl (HV1.o.below (acv.alloc acu _) acu) HVO.o (by unfold maxLen;omega) (by omega) (by simp) ?_;intro A1 c1' w2 hown1 hb1;have hB1:=((Below.refl w1.heap.size w1).alloc acu _).trans hb1;have hf1:w2.frozen? ⟨r,1,none⟩=false:=(hB1.frozen (p:=⟨r,1,none⟩) hr1).trans qf1;have X3:=(hB1.cell (p:=⟨r,1,none⟩) hr1).trans s1))
      go_meet
      exact X6 HM.o (by have:=jY.o;omega) hnpos Ck.o hB1 hown1 (by unfold maxLen;omega) ZU.o HLOW.o
     case rest=>
      obtain⟨w2,rfl⟩:∃w2:World,w2=wc:=⟨_,rfl⟩;clear s1 qf1;obtain⟨gN,oN,cN2,gD,oD,cD2,vs2,IK⟩:=hcut;obtain⟨ax,cx,t0,t1,t2,t3,t4⟩:=IK.facts (k:=k) (d:=x.b) (by rw[List.getElem?_map,Gm.o];rfl);rw[Ck.o]at t1;rw[←Ho.o]at t2 t4;have hs2:=IK.keeps.size;have hr2:r<w2.heap.size:=by omega
      have hgD:=IK.newD.2;have hfD:=IK.plD.frozen (oD+k);have Bu:=acr IK;have HXB:=acr t4;have HB2:acs (ah S w2 ab nb (bs.map bv)):=ZI.o.kept hs2 fun b hb hbw=>IK.keeps.block b hbw (kG.o b hb);have DW:acs (∀w4,Below w2.heap.size w2 w4→w4.cell? ⟨r,1,none⟩=some (.slice (some ⟨gD,oD,none⟩) n cD2)∧w4.cell? ⟨gD,oD+k,none⟩=some (.slice ax l cx)∧w4.frozen? ⟨gD,oD+k,none⟩=false):=fun w4 hb=>⟨by rw[hb.cell (p:=⟨r,1,none⟩) hr2];exact t1,by rw[hb.cell (p:=⟨gD,oD+k,none⟩) hgD];exact t2,by rw[hb.frozen (p:=⟨gD,oD+k,none⟩) hgD];exact hfD⟩;have HXR:acs (∀w4,Below w2.heap.size w2 w4→ah (fun b=>(F b∧b<w.heap.size∧b≠r)∨(w.heap.size≤b∧b<w2.heap.size∧b≠gN∧b≠gD)) w4 ax (l*1) (x.b.map bv)∧ah S w4 ab (nb*1) (bs.map bv)):=fun w4 hb=>by
       rw[aaK,aaK];exact⟨t4.below hb acu,HB2.o.below hb acu⟩
      obtain⟨i8,a8,b8,u8,t8⟩:=aam info8a;have EM:=acr (And.intro a8 (And.intro b8 (And.intro u8 t8)));clear IK t0 t3 t4 a8 b8 u8 t8;go_upto_region 10 with(fail)
      go_cut [] (fun wx=>Cz F w r (.slice aE (aW T).length cE) T ((List.map (fun q:Int×bJ=>q.2.b) T).set k (x.b++bs)) wx)
      case first=>
       go_wp2;refine wQ 17 ((fun w'=>w'.cell? ⟨r,1,none⟩=some (.slice (some ⟨gD,oD,none⟩) n cD2)∧w'.cell? ⟨gD,oD+k,none⟩=some (.slice ax l cx)∧w'.frozen? ⟨gD,oD+k,none⟩=false)) ?_ fun hS=> ?_
       ·exact DW.o _ acv.drew
       refine aC 0 hS ?_;refine aC 1 hS ?_;refine aC 2 hS ?_;refine aC 3 hS ?_;refine aC 4 hS ?_;refine aC 6 hS ?_;refine aC 7 hS ?_;refine aC 8 hS ?_;refine aC 9 hS ?_;refine aC 10 hS ?_;refine aC 11 hS ?_;refine aC 12 hS ?_;refine aC 14 hS ?_;refine bU 5 fun K hK=> ?_;go_simp;refine bV hK (DW.o _ (acv.drew.alloc acu _)) fun hS=> ?_;clear hK K;refine bU 13 fun K hK=> ?_;refine au (by rfl) (.tmp 61) (.tmp 68) 28 (by rfl) w2.heap.size 5 _ _ 1 1 Tryz.underlying28 EM.o.1 EM.o.2.1 EM.o.2.2.1 EM.o.2.2.2 rfl (by omega) _ 0 [] (by rfl) (fT (MapKept.heap_alloc w2.drew _).1 acu) _ l _ (x.b.map bv) (by rfl) (HXR.o _ (acv.drew.alloc acu _)).1 (dV _) (by unfold maxLen;omega) (by omega) (by simp<;>omega) ?_;intro A1 c1z u1 hown1 hb1;have hB1:Below w2.heap.size w2 u1:=(acv.drew.alloc acu _).trans hb1;refine bV hK (DW.o _ hB1) fun hS=> ?_;clear hK K;refine bU 15 fun K hK=> ?_;refine au (by rfl) (.tmp 69) (.tmp 70) 28 (by rfl) w2.heap.size 5 _ _ 1 1 Tryz.underlying28 EM.o.1 EM.o.2.1 EM.o.2.2.1 EM.o.2.2.2 rfl (by omega) _ _ _ (by rfl) hown1 _ nb _ (bs.map bv) (by rfl) (HXR.o _ hB1).2 (dV _) (by unfold maxLen;omega) (by omega) hB1.size ?_;intro A2 c2z u2 hown2 hb2;have hB2:Below w2.heap.size w2 u2:=hB1.trans hb2;refine bV hK (DW.o _ hB2) fun hS=> ?_;clear hK K;refine aC 16 hS ?_;refine bU 17 fun K hK=> ?_;go_simp;refine nk hK ?_;clear hS hK K;go_wp2_with fail
       go_meet
       exact Ra Bu.o (by have:=Ck.o;omega) hB2 hown2 ⟨by simp,by rw[List.length_append,N_.o,←Ho.o];omega,by omega⟩ (by unfold maxLen;omega)
      case rest=>
       obtain⟨w3,rfl⟩:∃w3:World,w3=wc:=⟨_,rfl⟩;clear t1 t2 hfD hgD hr2;obtain⟨gN,oN,cN3,gD,oD,cD3,vs3,ZV⟩:=hcut;obtain⟨ay,cy,t0,t1,t2,-,-⟩:=ZV.facts (k:=k) (d:=x.b++bs) (aaY (by have:=Ck.o;omega));rw[←jY.o]at t0;rw[aaV,Ck.o]at t1;rw[List.length_append,N_.o,←Ho.o]at t2;obtain⟨b',o',e',-,-,-,Lg⟩:=ZV.rowN.wide gK rfl Gm.o (by omega);simp only[Pd,aaQ,aaI]at e';obtain⟨rfl,rfl⟩:=e';have t3:w3.cell? ⟨gN,oN+k*6+3,none⟩=some (.int .i64 (x.b.length:Nat)):=Lg 3 (by omega);have t4:=ZV.plN.frozen (oN+k*6+3);have EO:=acr ZV;have HT0:=acr t0;clear ZV Lg;go_wp2;refine wQ 15 ((fun w'=>w'.cell? ⟨r,0,none⟩=some (.slice (some ⟨gN,oN,none⟩) n cN3)∧w'.cell? ⟨r,1,none⟩=some (.slice (some ⟨gD,oD,none⟩) n cD3)∧w'.cell? ⟨gD,oD+k,none⟩=some (.slice ay (l+nb) cy)∧w'.cell? ⟨gN,oN+k*6+3,none⟩=some (.int .i64 (x.b.length:Nat))∧w'.frozen? ⟨gN,oN+k*6+3,none⟩=false)) ?_ fun hS=> ?_
       ·exact⟨t0,t1,t2,t3,t4⟩
       refine aC 0 hS ?_;refine aC 1 hS ?_;refine aC 2 hS ?_;refine aC 3 hS ?_;refine aC 4 hS ?_;refine aC 5 hS ?_;refine aC 6 hS ?_;refine aC 7 hS ?_;refine aC 8 hS ?_;refine aC 9 hS ?_;refine aC 10 hS ?_;refine aC 11 hS ?_;refine aC 12 hS ?_;refine aC 13 hS ?_;refine aC 14 hS ?_;refine bU 15 fun K hK=> ?_;go_simp;refine nk hK ?_;clear hS hK K;go_wp2_with fail;go_ret;rw[HQ.o];have h7:=UN HH.o Ab.o EO.o Gm.o (q':=(id,{x with b:=x.b++bs})) (v3:= .int .i64 ((l+nb:Nat):Int)) (by
        show _=_;have e9:(x.b++bs).length=l+nb:=by rw[List.length_append,N_.o,←Ho.o]
        unfold dM;simp only[e9];rfl) (.int .i64 0)
       rw[←Nat.add_assoc]at h7;have h8:=pE (f:=fun x:bJ=>{x with b:=x.b++bs}) HS.o Gm.o;have h9:=data_set (f:=fun x:bJ=>{x with b:=x.b++bs}) HS.o Gm.o;simp only at h8 h9;rw[h8,←h9]at h7;have h10:=h7.then_ HH.o.low acv.drew;refine⟨h10.1,h10.2.1,?_⟩;rw[nO (fun _=>by exact rfl)];exact h10.2.2
 ·have HQ:=acr (vN (T:=T) (id:=id) (bs:=bs) (v:=dG T id) (by
   unfold lG dG at*;cases hx:aj id T with
   |none=>rfl
   |some x=>
    rw[hx]at h0;by_cases hk:x.kind=2
    ·simp[hk]
    ·exact absurd (by simp[hk]) h0) h0)
  generalize dG T id=f at*;have hne:(f==0)=false:=by simpa using h0
  have hne2:(f !=0)=true:=by simpa using h0
  clear h hT h0 hbs hbl hSr;go_enter Tryz.func107,Tryz.ntmps107;go_wp2_with fail;refine HF.o.mono ?_;rintro e w1 ⟨rfl,rfl⟩;go_wp2_with fail;go_ret;exact bS.no HH.o acv HQ.o
end
def NewRef(w:World)(e:Ending)(w':World):Prop:=∃r,e= .returned (ptr r)∧jC (fun x=>w.heap.size≤x∧x<w'.heap.size) w' r wO∧Below w.heap.size w w'
theorem Rb(w:World)(o1 o2 o3:Obj):(((w.alloc o1).alloc o2).alloc o3).heap[w.heap.size]? =some o1∧(((w.alloc o1).alloc o2).alloc o3).heap[w.heap.size+1]? =some o2∧(((w.alloc o1).alloc o2).alloc o3).heap[w.heap.size+2]? =some o3:=by
 have h1:=(MapKept.heap_alloc w o1).1;have h2:=(MapKept.heap_alloc (w.alloc o1) o2).1;have h3:=(MapKept.heap_alloc ((w.alloc o1).alloc o2) o3).1;rw[Pe]at h2;rw[Pe,Pe]at h3;exact⟨((wall _ o3).block _ (by simp;omega)).trans (((wall _ o2).block _ (by simp)).trans h1),((wall _ o3).block _ (by simp)).trans h2,h3⟩
theorem UO(w:World):Calls Tryz.prog 22 #[] w (NewRef w):=by
 go_enter Tryz.func22,Tryz.ntmps22;go_wp2;go_ret;obtain⟨h0,h1,h2⟩:=Rb w (.cells #[.int .i64 0,.int .i64 2,.int .i64 1,.int .i64 0,.int .u64 0,.bool true] 39) (.cells #[.slice none 0 0] 28) (.cells #[.slice (some ⟨w.heap.size,0,none⟩) 1 1,.slice (some ⟨w.heap.size+1,0,none⟩) 1 1,.slice none 0 0] 113);refine⟨w.heap.size+2,rfl,⟨⟨some ⟨w.heap.size,0,none⟩,1,some ⟨w.heap.size+1,0,none⟩,1,none,0,h2,Nat.le_refl _,Nat.le_refl _,Nat.le_refl _,?_,⟨[.slice none 0 0],?_,?_⟩,ah.nil _ _ _,.inl ⟨rfl,rfl⟩⟩,?_,?_⟩,?_⟩
 ·exact(ng (vs:=dM (0,cu 2)) h0 (by simp[dM,maxLen])).mono fun b hb=>by subst hb;exact⟨⟨Nat.le_refl _,by simp;omega⟩,by omega⟩
 ·exact(ng (vs:=[.slice none 0 0]) h1 (by simp[maxLen])).mono fun b hb=>by subst hb;exact⟨⟨by omega,by simp⟩,by omega⟩
 ·intro i b hb;cases i with
  |zero=>
   have:b=[]:=(aaH hb).symm;subst this;exact⟨none,0,rfl,⟨Nat.le_refl _,by simp[maxLen]⟩,ah.nil _ _ _⟩
  |succ i=>simp[wO]at hb
 ·exact⟨by omega,by simp⟩
 ·exact fun b hb=>hb.2
 ·exact((acv.alloc acu _).alloc (by simp) _).alloc (by simp;omega) _
def gV(o:Mark)(j:Nat)(w:World)(r:Nat)(T:aA):Prop:=∃F,jC F w r T∧o r=j∧∀b,F b→b≠r→o b=0
theorem gV.step{o o':Mark}{I:Nat→Prop}{j:Nat}{w w':World}{r:Nat}{T:aA}(h:gV o j w r T)(hi:¬I 0)(hij:¬I j)(hs:Step o I w o' w'):gV o' j w' r T:=by
 obtain⟨F,hR,hr,hF⟩:=h;refine⟨F,hR.keeps hs.keep fun b hb hI=> ?_,(hs.old r (hR.low r hR.own)).trans hr,fun b hb hbr=>(hs.old b (hR.low b hb)).trans (hF b hb hbr)⟩;by_cases hbr:b=r
 ·subst hbr;exact hij (hr▸hI)
 ·exact hi (hF b hb hbr▸hI)
theorem gV.grow{o:Mark}{j:Nat}{w w':World}{r:Nat}{T:aA}(h:gV o j w r T)(hb:Below w.heap.size w w'):gV o j w' r T:=by
 obtain⟨F,hR,hr,hF⟩:=h;exact⟨F,hR.below hb acu,hr,hF⟩
def RO(o:Mark)(j:Nat)(w:World)(r:Nat)(T':aA)(v:Value)(e:Ending)(w':World):Prop:=
 e= .returned v∧∃o',Step o (fun k=>k=j) w o' w'∧gV o' j w' r T'
theorem RO.of{W w w':World}{o:Mark}{j r:Nat}{T':aA}{F:Nat→Prop}{v:Value}{e:Ending}(hM:Marks W o w)(hrF:F r)(hr:o r=j)(hF:∀b,F b→b≠r→o b=0)(h:bS F w r T' v e w'):RO o j w r T' v e w':=by
 refine⟨h.1,o,⟨fun _ _=>rfl,fun b hb hn=> ?_,h.2.1.mono fun x _ hx=> ?_⟩,_,h.2.2,hr,fun b hb hbr=> ?_⟩
 ·have:=(hM.new b hn).2;omega
 ·show o x=j;rw[hx];exact hr
 ·rcases hb with hb|hb
  ·exact hF b hb hbr
  ·exact Decidable.byContradiction fun h0=>by have:=(hM.new b h0).2;omega
section
variable{W w:World}{o:Mark}{j r:Nat}{T:aA}
theorem X7{S:Nat→Prop}(h:gV o j w r T)(hM:Marks W o w)(hT:dZ T)(a:Option Addr)(n0 c0:Nat)(ls:List Nm)(kind:Int)(hS:aT S w a n0 (ls.map strOf))(hc:n0≤c0)(mQ:n0≤1000000):
  Calls Tryz.prog 100 #[ptr r,.slice a n0 c0,.int .i64 kind] w (RO o j w r (bZ T ls kind).2 (.tuple #[.int .i64 (bZ T ls kind).1.1,.int .i64 (bZ T ls kind).1.2])):=by
 obtain⟨F,hR,hr,hF⟩:=h;exact(Q_ a n0 c0 ls kind w hR hT hS hc mQ).mono fun e w' ht=>RO.of hM hR.own hr hF ht
theorem X8{S S':Nat→Prop}(h:gV o j w r T)(hM:Marks W o w)(hT:dZ T)(a:Option Addr)(n c:Nat)(ls:List Nm)(a':Option Addr)(n' c':Nat)(ls':List Nm)(hS:aT S w a n (ls.map strOf))(hS':aT S' w a' n' (ls'.map strOf))(hc':n'≤c')(MS:n'≤1000000):
  Calls Tryz.prog 46 #[ptr r,.slice a n c,.slice a' n' c'] w (RO o j w r (kW T ls ls').2 (.int .i64 (kW T ls ls').1)):=by
 obtain⟨F,hR,hr,hF⟩:=h;exact(QW a n c ls a' n' c' ls' w hR hT hS hS' hc' MS).mono fun e w' ht=>RO.of hM hR.own hr hF ht
theorem Rc{S:Nat→Prop}(h:gV o j w r T)(hM:Marks W o w)(hT:dZ T)(a:Option Addr)(n c:Nat)(ls:List Nm)(hS:aT S w a n (ls.map strOf))(hc:n≤c)(mQ:n≤1000000):
  Calls Tryz.prog 121 #[ptr r,.slice a n c] w (RO o j w r (bL T ls).2 (.int .i64 (bL T ls).1)):=by
 obtain⟨F,hR,hr,hF⟩:=h;exact(J5 a n c ls w hR hT hS hc mQ).mono fun e w' ht=>RO.of hM hR.own hr hF ht
theorem UQ{S:Nat→Prop}(h:gV o j w r T)(hM:Marks W o w)(hT:dZ T)(a:Option Addr)(n c:Nat)(ls:List Nm)(hS:aT S w a n (ls.map strOf))(hc:n≤c)(mQ:n≤1000000):
  Calls Tryz.prog 47 #[ptr r,.slice a n c] w (RO o j w r (iC T ls).2 (.int .i64 (iC T ls).1)):=by
 obtain⟨F,hR,hr,hF⟩:=h;exact(MU a n c ls w hR hT hS hc mQ).mono fun e w' ht=>RO.of hM hR.own hr hF ht
theorem Rf{S S':Nat→Prop}(h:gV o j w r T)(hM:Marks W o w)(hO:fZ T)(a:Option Addr)(n c:Nat)(ls:List Nm)(a':Option Addr)(n' c':Nat)(ls':List Nm)(hS:aT S w a n (ls.map strOf))(hS':aT S' w a' n' (ls'.map strOf))(hc:n≤c)(mQ:n≤1000000)(hc':n'≤c')(MS:n'≤1000000):
  Calls Tryz.prog 48 #[ptr r,.slice a n c,.slice a' n' c'] w (RO o j w r (eF T ls ls').2 (.int .i64 (eF T ls ls').1)):=by
 obtain⟨F,hR,hr,hF⟩:=h;exact(J_ a n c ls a' n' c' ls' w hR hO hS hS' hc mQ hc' MS).mono fun e w' ht=>RO.of hM hR.own hr hF ht
theorem Rh{S:Nat→Prop}(h:gV o j w r T)(hM:Marks W o w)(hj:j≠0)(hT:dZ T)(id:Int)(ab:Option Addr)(nb cb:Nat)(bs:List UInt8)(hbs:ah S w ab nb (bs.map bv))(hSr:∀b,S b→o b=0)(hnb:nb≤1000000):
  Calls Tryz.prog 107 #[ptr r,.int .i64 id,.slice ab nb cb] w (RO o j w r (cK T id bs).2 (.int .i64 (cK T id bs).1)):=by
 obtain⟨F,hR,hr,hF⟩:=h;exact(Kg id ab nb cb bs w hR hT hbs (fun b hb e=>by have:=hSr b hb;rw[e,hr]at this;exact hj this) hnb).mono fun e w' ht=>RO.of hM hR.own hr hF ht
theorem X9(h:gV o j w r T)(hM:Marks W o w)(hT:dZ T)(id aF:Int)(ht0:0≤aF∧aF≤18446744073709551615):
  Calls Tryz.prog 108 #[ptr r,.int .i64 id,.int .u64 aF] w (RO o j w r (dY T id aF).2 (.int .i64 (dY T id aF).1)):=by
 obtain⟨F,hR,hr,hF⟩:=h;exact(Q0 id aF w hR hT ht0).mono fun e w' ht=>RO.of hM hR.own hr hF ht
theorem X_(h:gV o j w r T)(hM:Marks W o w)(hT:dZ T)(id aF:Int)(ht0:0≤aF∧aF≤18446744073709551615):
  Calls Tryz.prog 120 #[ptr r,.int .i64 id,.int .u64 aF] w (RO o j w r (jA T id aF).2 (.int .i64 (jA T id aF).1)):=by
 obtain⟨F,hR,hr,hF⟩:=h;exact(QZ id aF w hR hT ht0).mono fun e w' ht=>RO.of hM hR.own hr hF ht
theorem Ya(h:gV o j w r T)(hM:Marks W o w)(hT:dZ T)(id:Int):
  Calls Tryz.prog 177 #[ptr r,.int .i64 id] w (RO o j w r (dO T id).2 (.int .i64 (dO T id).1)):=by
 obtain⟨F,hR,hr,hF⟩:=h;exact(Q8 id w hR hT).mono fun e w' ht=>RO.of hM hR.own hr hF ht
theorem UR(hM:Marks W o w)(j:Nat):Calls Tryz.prog 22 #[] w fun e w'=>∃r o',e= .returned (ptr r)∧Step o (fun k=>k=j) w o' w'∧gV o' j w' r wO:=by
 refine(UO w).mono fun e w' ⟨r,he,hR,hb⟩=> ?_;obtain⟨o',hs,h1,h2⟩:=iQ hM j (fun b=>b=r) (fun b hb'=>by subst hb';exact hR.own) hb;refine⟨r,o',he,hs,_,hR,h1 r rfl,fun b hb' hbr=> ?_⟩;rw[h2 b hbr];exact Decidable.byContradiction fun h0=>by have:=(hM.new b h0).2;omega
end
end Go.Proofs.YtjnhnlabpccgjaaGreatDoor
