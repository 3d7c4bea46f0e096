/- The -/
import Derived.Test.YtjnhnlabpccgjaaGreatDoorM35
import Derived.Test.YtjnhnlabpccgjaaGreatDoorM37
import Derived.Test.YtjnhnlabpccgjaaGreatDoorM21
set_option maxRecDepth 100000
set_option maxHeartbeats 64000000
set_option linter.all false
namespace Go.Proofs.YtjnhnlabpccgjaaGreatDoor
open Go.ChangeShapes Go.WideShapes Go.ChangeAt Go.RowKit
theorem vU{T:aL}{id:Int}{bs:List UInt8}{v:Int}(h:mK T id bs=v)(hv:v≠0):dw T id bs=(v,T):=by
 unfold dw;rw[h,if_neg hv]
structure D9(F:Nat→Prop)(w:World)(r:Nat)(x2:Value)(T:aL)(D:List (List UInt8))(gN oN cN gD oD cD:Nat)(vs:List Value)(wx:World):Prop where
 keeps:Keeps (fun x=>x=r) w wx
 rlt:r<w.heap.size
 head:wx.heap[r]? =some (.cells #[.slice (some ⟨gN,oN,none⟩) T.length cN,.slice (some ⟨gD,oD,none⟩) D.length cD,x2] 113 (0,0))
 lenN:T.length≤cN
 lenD:D.length≤cD
 rowN:ah (fun b=>b=gN) wx (some ⟨gN,oN,none⟩) (T.length*6) (T.flatMap dV)
 plN:Plain wx (some ⟨gN,oN,none⟩)
 XZ:ah (fun b=>b=gD) wx (some ⟨gD,oD,none⟩) D.length vs
 plD:Plain wx (some ⟨gD,oD,none⟩)
 newN:w.heap.size≤gN∧gN<wx.heap.size
 newD:w.heap.size≤gD∧gD<wx.heap.size
 ne:gN≠gD
 each:Each (fun b=>(F b∧b<w.heap.size∧b≠r)∨(w.heap.size≤b∧b<wx.heap.size∧b≠gN∧b≠gD)) wx vs D
def Cu(F:Nat→Prop)(w:World)(r:Nat)(x2:Value)(T:aL)(D:List (List UInt8))(wx:World):Prop:=∃gN oN cN gD oD cD vs,D9 F w r x2 T D gN oN cN gD oD cD vs wx
theorem X0{F:Nat→Prop}{w w1 w2:World}{r n c:Nat}{x1 x2:Value}{T:aL}{D:List (List UInt8)}{a:Option Addr}{vs:List Value}(hm:cu w r x1 x2 T w1)(hT:0<T.length)(hn:0<n)(hD:D.length=n)(hb:Below w1.heap.size w1 w2)
  (hown:w2.ownsRow w1.heap.size 28 1 (.slice a (0+n) c) (0+n) ([]++vs))(hmx:(0+n)*1≤maxLen)(he:Each (Off F r) w vs D)(hlow:∀b,F b→b<w.heap.size):Cu F w r x2 T D (w2.setCell ⟨r,1,none⟩ (.slice a n c)):=by
 obtain⟨hK,hr,aN,cN,h2,h3,h4,h5⟩:=hm;have hs1:=hK.size;have hs2:=hb.size;obtain⟨-,hcc,-,hrow⟩:=ah.oM hown hmx;rw[Nat.zero_add]at hcc;rw[Nat.zero_add,Nat.mul_one,List.nil_append]at hrow;obtain⟨gN,oN,rfl,hFN,hbN,-⟩:=h4.at_ (by omega);obtain⟨gD,oD,rfl,hFD,hbD,-⟩:=hrow.at_ (by omega);have hp:=nA hown;have hFN1:=hFN.1;have hFD1:=hFD.1;have hgNr:gN≠r:=by omega
 have hgDr:gD≠r:=by omega
 have hrN:ah (fun b=>b=gN) w1 (some ⟨gN,oN,none⟩) (T.length*6) (T.flatMap dV):=⟨h4.length,h4.small,fun h0=>by
  obtain⟨b,o,e,_,hb',hc'⟩:=h4.at_ h0;simp only[aac,aaS,aaI]at e;obtain⟨rfl,rfl⟩:=e;exact⟨_,_,rfl,rfl,hb',hc'⟩⟩
 have hrD:ah (fun b=>b=gD) w2 (some ⟨gD,oD,none⟩) n vs:=⟨hrow.length,hrow.small,fun h0=>by
  obtain⟨b,o,e,_,hb',hc'⟩:=hrow.at_ h0;simp only[aac,aaS,aaI]at e;obtain⟨rfl,rfl⟩:=e;exact⟨_,_,rfl,rfl,hb',hc'⟩⟩
 have hDn:=hD;have hK2:Keeps (fun x=>x=r) w w2:=hK.trans (Keeps.below hb) (fun x hx hf=>by omega);refine⟨gN,oN,cN,gD,oD,c,vs,⟨hK2.trans (Keeps.f_ _ _ _) fun x _ hx=>hx,hr,?_,h3,by rw[hDn];exact hcc,?_,?_,?_,?_,⟨hFN1,by rw[size_set];omega⟩,⟨by omega,by rw[size_set];exact hbD⟩,by omega,?_⟩⟩
 ·rw[aI ((hb.block r (by omega)).trans h2),hDn];rfl
 ·exact(hrN.below hb acC).apart ⟨r,1,none⟩ _ fun b hb'=>by subst hb';exact hgNr
 ·exact(h5.kept fun g off e=>by
   simp only[aac,aaS,aaI]at e;obtain⟨rfl,_⟩:=e;exact hb.block _ hbN).f_ _ _ rfl
 ·rw[hDn];exact hrD.apart ⟨r,1,none⟩ _ fun b hb'=>by subst hb';exact hgDr
 ·exact hp.f_ _ _ rfl
 ·refine he.move (by rw[size_set];omega) fun b hb' hbw=>⟨.inl ⟨hb'.1,hbw,hb'.2⟩,?_⟩;rw[aV _ _ _ _ hb'.2];exact hK2.block b hbw hb'.2
theorem Qv{F:Nat→Prop}{w w2 u:World}{r gN oN cN gD oD cD k c n m:Nat}{x2:Value}{T:aL}{D:List (List UInt8)}{vs:List Value}{a:Option Addr}{nb:List UInt8}{ys:List Value}(h:D9 F w r x2 T D gN oN cN gD oD cD vs w2)(hk:k<D.length)(hb:Below w2.heap.size w2 u)
  (hown:u.ownsRow w2.heap.size 5 1 (.slice a m c) m ys)(hys:ys=nb.map bv∧m=nb.length∧n=m)(hmx:m*1≤maxLen):Cu F w r x2 T (D.set k nb) (u.setCell ⟨gD,oD+k,none⟩ (.slice a n c)):=by
 obtain⟨rfl,rfl,rfl⟩:=hys;have hs:=hb.size;have hs0:=h.keeps.size;have hnN:=h.newN;have hnD:=h.newD;have hne:=h.ne;have hrlt:=h.rlt;obtain⟨a',c',e,hlc,hcm⟩:=Ab hown;simp only[aar,abG]at e;obtain⟨rfl,rfl⟩:=e;obtain⟨-,-,-,hrow⟩:=ah.oM hown hmx;rw[Nat.mul_one]at hrow;have hK2:Keeps (fun x=>x=r) w u:=h.keeps.trans (Keeps.below hb) (fun x hx hf=>by omega);have hK3:Keeps (fun x=>x=r) w (u.setCell ⟨gD,oD+k,none⟩ (.slice a nb.length c)):=hK2.trans (fp':=fun x=>x=gD) (Keeps.f_ u ⟨gD,oD+k,none⟩ _) (fun x hx hf=>by omega);refine⟨gN,oN,cN,gD,oD,cD,vs.set k (.slice a nb.length c),⟨hK3,hrlt,?_,h.lenN,by rw[aa0];exact h.lenD,?_,?_,?_,?_,⟨hnN.1,by rw[size_set];omega⟩,⟨hnD.1,by rw[size_set];omega⟩,hne,?_⟩⟩
 ·rw[aV _ _ _ _ (show r≠gD by omega),aa0];exact(hb.block r (by omega)).trans h.head
 ·exact(h.rowN.below hb acC).apart ⟨gD,oD+k,none⟩ _ fun b hb'=>by subst hb';exact hne
 ·exact(h.plN.kept fun g off e=>by
   simp only[aac,aaS,aaI]at e;obtain⟨rfl,_⟩:=e;exact hb.block _ hnN.2).f_ _ _ rfl
 ·have:=(h.XZ.below hb acC).f_ (j:=k) hk (.slice a nb.length c);rw[aa0];exact this
 ·exact(h.plD.kept fun g off e=>by
   simp only[aac,aaS,aaI]at e;obtain⟨rfl,_⟩:=e;exact hb.block _ hnD.2).f_ _ _ rfl
 ·have hvl:vs.length=D.length:=h.XZ.length;intro i b hbi;by_cases hik:i=k
  ·subst hik;rw[aa1 hk]at hbi;cases hbi;refine⟨a,c,aa1 (by omega),⟨hlc,hcm⟩,?_⟩;exact hrow.move (by rw[size_set];exact Nat.le_refl _) fun b hb1 hb2=>⟨.inr ⟨by omega,by rw[size_set];exact hb2,by omega,by omega⟩,aV _ _ _ _ (show b≠gD by omega)⟩
  ·rw[List.getElem?_set_ne (abw hik)]at hbi⊢;obtain⟨a2,c2,e1,e2,e3⟩:=h.each i b hbi;refine⟨a2,c2,e1,e2,e3.move (by rw[size_set];omega) fun b hb1 hb2=>⟨?_,?_⟩⟩
   ·rcases hb1 with hb1|hb1
    ·exact .inl hb1
    ·exact .inr ⟨hb1.1,by rw[size_set];omega,hb1.2.2⟩
   ·have:b≠gD:=by rcases hb1 with hb1|hb1<;>omega
    rw[aV _ _ _ _ this];exact hb.block b hb2
theorem UH{F:Nat→Prop}{w w3:World}{r gN oN cN gD oD cD k:Nat}{x0 x1 x2:Value}{T:aL}{D0 D:List (List UInt8)}{E:List kJ}{vs:List Value}{q q':Int×bP}{v3:Value}(hR:iP F w r T D0 E)(h1:w.heap[r]? =some (.cells #[x0,x1,x2] 113 (0,0)))(h:D9 F w r x2 T D gN oN cN gD oD cD vs w3)(hq:T[k]? =some q)(hv:dV q'=(dV q).set 3 v3)(v:Value):
  eB F w r (T.set k q') D E v (.returned v) (w3.setCell ⟨gN,oN+(k*6+3),none⟩ v3):=by
 have hnN:=h.newN;have hnD:=h.newD;have hne:=h.ne;have hrlt:=h.rlt;have hkl:k<T.length:=(aae.1 hq).1;obtain⟨aN,cN',aD,cD',aE,cE,g1,-,g3,g4,-,g9,g10,g11⟩:=hR.head;rw[h1]at g1;simp only[aac,Obj.cells.injEq,Array.mk.injEq,aa6,aaI,abG]at g1;obtain⟨-,-,rfl⟩:=g1;have hK3:Keeps (fun x=>x=r) w (w3.setCell ⟨gN,oN+(k*6+3),none⟩ v3):=h.keeps.trans (fp':=fun x=>x=gN) (Keeps.f_ w3 ⟨gN,oN+(k*6+3),none⟩ _) (fun x hx hf=>by omega);refine⟨rfl,hK3,hR.turn (aN:=some ⟨gN,oN,none⟩) (aD:=some ⟨gD,oD,none⟩) (cN:=cN) (cD:=cD) hK3 ?_ (by rw[aa0];exact h.lenN) h.lenD g4 ?_ ⟨vs,?_,?_⟩ (uq hK3 g10) g11⟩
 ·rw[aV _ _ _ _ (show r≠gN by omega),aa0];exact h.head
 ·have:=h.rowN.f_ (j:=k*6+3) (by omega) v3;rw[AJ dV 6 ig (by omega) hv T k hq]at this;rw[aa0];exact this.mono fun b hb=>⟨.inr ⟨by omega,by rw[size_set];omega⟩,by omega⟩
 ·exact(h.XZ.apart ⟨gN,oN+(k*6+3),none⟩ v3 fun b hb=>by subst hb;exact abw hne).mono fun b hb=>⟨.inr ⟨by omega,by rw[size_set];omega⟩,by omega⟩
 ·refine h.each.move (by rw[size_set];exact Nat.le_refl _) fun b hb1 hb2=>⟨⟨?_,?_⟩,?_⟩
  ·rcases hb1 with hb1|hb1
   ·exact .inl hb1.1
   ·exact .inr ⟨hb1.1,by rw[size_set];exact hb1.2.1⟩
  ·rcases hb1 with hb1|hb1
   ·exact hb1.2.2
   ·omega
  ·exact aV _ _ _ _ (show b≠gN by rcases hb1 with hb1|hb1<;>omega)
theorem D9.facts{F:Nat→Prop}{w wx:World}{r gN oN cN gD oD cD k:Nat}{x2:Value}{T:aL}{D:List (List UInt8)}{vs:List Value}(h:D9 F w r x2 T D gN oN cN gD oD cD vs wx){d:List UInt8}(hd:D[k]? =some d):∃a c,wx.cell? ⟨r,0,none⟩=some (.slice (some ⟨gN,oN,none⟩) T.length cN)∧wx.cell? ⟨r,1,none⟩=some (.slice (some ⟨gD,oD,none⟩) D.length cD)∧wx.cell? ⟨gD,oD+k,none⟩=some (.slice a d.length c)∧xq d.length c∧ah (fun b=>(F b∧b<w.heap.size∧b≠r)∨(w.heap.size≤b∧b<wx.heap.size∧b≠gN∧b≠gD)) wx a d.length (d.map bv):=by
 obtain⟨a,c,e1,e2,e3⟩:=h.each k d hd;have hk:k<D.length:=(aae.1 hd).1;obtain⟨p0,p1,-,-⟩:=jy h.head;obtain⟨b,o,e,-,hb,hc⟩:=h.XZ.at_ (by omega);simp only[aac,aaS,aaI]at e;obtain⟨rfl,rfl⟩:=e;exact⟨a,c,p0,p1,(hc k hk).trans e1,e2,e3⟩
section
variable{F:Nat→Prop}{r:Nat}{T:aL}
theorem info8a:(Tryz.prog.info? 5).map (fun i=>(i.zero,i.size,i.bytes))=some (some (.int .u8 0),1,1):=by kernel_rfl
theorem Kq{S:Nat→Prop}(id:Int)(ab:Option Addr)(nb cb:Nat)(bs:List UInt8)(w:World)(h:jW F w r T)(hT:dG T)(hbs:ah S w ab nb (bs.map bv))(hSr:∀b,S b→b≠r)(hnb:nb≤1000000):
  Calls Tryz.prog 107 #[ptr r,.int .i64 id,.slice ab nb cb] w (bO F w r (dw T id bs).2 (.int .i64 (dw T id bs).1)):=by
 have hbl:bs.length=nb:=by have:=hbs.length;simpa using this
 have HF:=acA (sZ id w h hT.toBJ);have hr0:=h.low r h.own;have HH:=acA h;by_cases h0:bV T id=0
 ·obtain⟨x,hx,hk⟩:∃x,aj id T=some x∧x.kind≠2:=by
   unfold bV at h0;cases hx:aj id T with
   |none=>rw[hx]at h0;cases h0
   |some x=>
    rw[hx]at h0;exact⟨x,rfl,fun hk=>by simp[hk]at h0⟩
  obtain⟨k,hi,hq⟩:=mI hT.sorted hx;have hrf:Ka T id=k:=by unfold Ka;rw[if_pos h0];exact hi
  rw[hrf,h0]at HF;obtain⟨bN,oN,cN,hc0,hO,hbw,hkl,c0,c1,c2,c3,c4,c5⟩:=h.node hq;simp only at c0 c1 c2 c3 c4 c5;have i0:(0:Int)≤k:=by omega
  have hlen:=hT.len;have F7:=acA hq;have HS:=acA hT.sorted;obtain⟨i6,a6,b6,s6,d6⟩:=aap nodeInfo;have lT:=acA (And.intro a6 (And.intro b6 (And.intro s6 d6)));obtain⟨aN,cN',aD,cD,aE,cE,h1,h2,h3,h4,h8,h9,h10,h11⟩:=h.head;obtain⟨p0,p1,p2,pf⟩:=jy h1;rw[p0]at hc0;simp only[aac,aar,abG]at hc0;obtain⟨rfl,rfl⟩:=hc0;have Af:=acA h1;have Y9:=acA hbs;have Cn:=acA h8;obtain⟨n,hn⟩:∃n,n=T.length:=⟨_,rfl⟩;rw[←hn]at p0 hlen hkl h2 Cn;have lG:=acA hn;have hf0:=pf 0;have hfp:=hO.2;have i1:(k:Int)<n:=by omega
  have hrw:=hr0;have hsz:=(hT.each id x hx).size;have HLOW:=acA h.low;obtain⟨vs,hv,Ko⟩:=h9;have uO:=acA (hT.each id x hx);have HX:=acA hx;have hkx:=hk;clear a6 b6 s6 d6 h1 h8 h10 h11 hi hrf h hq hn p1 p2 pf hO hT h0 hbs;have he:mK T id bs=if x.closed then 27 else if 4096<x.b.length+bs.length then 15 else 0:=by
   unfold mK;rw[hx];simp only[if_neg hk]
  rw[hbl]at he;obtain⟨l,hl⟩:∃l,l=x.b.length:=⟨_,rfl⟩;rw[←hl]at he hsz c3;have KY:=acA hbl;have FH:=acA hl;have HV:=acA hv;have Zt:acB (Each (Off F r) w vs (T.map fun q=>q.2.b)):=Ko;have HVL:=acA hv.length;have fq:=acA hSr;clear hx hk hl hv Ko hbl hSr;cases hcl:x.closed with
  |true=>
   rw[hcl]at c5;have HQ:=acA (vU (he.trans (if_pos hcl)) (by omega));clear hcl he;go_enter Tryz.func107,Tryz.ntmps107;go_wp2_with fail;refine HF.o.mono ?_;rintro e w1 ⟨rfl,rfl⟩;go_wp2_with fail;go_ret;exact bO.no HH.o acD HQ.o
  |false=>
   rw[hcl]at c5;rw[if_neg (by rw[hcl];decide)]at he;have e1:IntKind.i64.wrap (4096-(l:Int))=4096-(l:Int):=aak _ (by omega);by_cases h6:4096<l+nb
   ·have HQ:=acA (vU (he.trans (if_pos h6)) (by omega));have hd6:decide ((4096:Int)-(l:Int)<(nb:Int))=true:=by simp;omega
    clear hcl he;go_enter Tryz.func107,Tryz.ntmps107;go_wp2_with fail;refine HF.o.mono ?_;rintro e w1 ⟨rfl,rfl⟩;go_wp2_with fail;go_ret;exact bO.no HH.o acD HQ.o
   ·have hd6:decide ((4096:Int)-(l:Int)<(nb:Int))=false:=by simp;omega
    have HQ:acB (dw T id bs=(0,bq id (fun x=>{x with b:=x.b++bs}) T)):=by
     show dw T id bs=_;unfold dw;rw[he,if_neg h6];rfl
    clear hcl he;go_enter Tryz.func107,Tryz.ntmps107;go_wp2_with fail;refine HF.o.mono ?_;rintro e w1 ⟨rfl,rfl⟩;go_upto_region 8 with(fail)
    go_cut [] (fun wx=>cu w r (.slice aD (List.map (fun q:Int×bP=>q.2.b) T).length cD) (.slice aE (aX T).length cE) T wx)
    case first=>
     go_wp2_with ((at_builtin;refine iq rfl _ _ 110 rfl w.heap.size 39 _ _ 6 48 Tryz.underlying110 lT.o.1 lT.o.2.1 lT.o.2.2.1 lT.o.2.2.2 rfl (by omega) _ 0 [] rfl (gI (MapKept.heap_alloc w _).1 acC) _ n _ (T.flatMap dV) rfl (Cn.o.below (acD.alloc acC _) acC) (iV _) (by unfold maxLen;omega) (by omega) (by simp) ?_;intro A1 c1' w1 hown1 hb1;have hB1:=((Below.refl w.heap.size w).alloc acC _).trans hb1;have hf1:w1.frozen? ⟨r,0,none⟩=false:=(hB1.frozen (p:=⟨r,0,none⟩) hrw).trans hf0;have XW:=(hB1.cell (p:=⟨r,0,none⟩) hrw).trans p0))
     go_meet
     obtain⟨-,hcc,-,hrow2⟩:=qw (w:=w) hown1 (by unfold maxLen;omega) acC;have hn:=lG.o;rw[List.nil_append,Nat.zero_add,hn]at hrow2;rw[Nat.zero_add,hn]at hcc;have:=cu.mk_ hrw Af.o hB1 hcc hrow2 (nA hown1);rw[←hn]at this;exact this
    case rest=>
     obtain⟨w1,rfl⟩:∃w1:World,w1=wc:=⟨_,rfl⟩;have hnpos:0<n:=by omega
     have Cc:acB ((List.map (fun q:Int×bP=>q.2.b) T).length=n):=by
      show _=_;rw[List.length_map];exact lG.o.symm
     obtain⟨g,off,c,q0,s1,-,hlc,qf,hgr,hg1,hg2,hr1,gf,d0,d1,d2,d3,d4,d5⟩:=hcut.facts F7.o;rw[Cc.o]at s1;have qf1:=qf 1;have HV1:acB (ah (Off (Grow F w w1) r) w1 aD (n*1) vs):=by
      have:=uq hcut.1 HV.o;rw[Cc.o]at this;rw[Nat.mul_one];exact this
     have HVO:acB (∀u∈vs,u.oneCell'=true):=Each.one Zt.o HVL.o;obtain⟨i1,a1,b1,u1,t1⟩:=aap zA;have HI1:=acA (And.intro a1 (And.intro b1 (And.intro u1 t1)));have HM:=acA hcut;clear hcut qf gf hlc q0 d0 d1 d2 d3 d4 d5 hgr hg1 hg2 a1 b1 u1 t1;go_upto_region 9 with(fail)
     go_cut [] (fun wx=>Cu F w r (.slice aE (aX T).length cE) T (List.map (fun q:Int×bP=>q.2.b) T) wx)
     case first=>
      go_wp2_with ((at_builtin;refine iq rfl _ _ 46 rfl w1.heap.size 28 _ _ 1 24 Tryz.underlying46 HI1.o.1 HI1.o.2.1 HI1.o.2.2.1 HI1.o.2.2.2 rfl (by omega) _ 0 [] rfl (gI (MapKept.heap_alloc w1 _).1 acC) _ n _ vs rfl (HV1.o.below (acD.alloc acC _) acC) HVO.o (by unfold maxLen;omega) (by omega) (by simp) ?_;intro A1 c1' w2 hown1 hb1;have hB1:=((Below.refl w1.heap.size w1).alloc acC _).trans hb1;have hf1:w2.frozen? ⟨r,1,none⟩=false:=(hB1.frozen (p:=⟨r,1,none⟩) hr1).trans qf1;have XW:=(hB1.cell (p:=⟨r,1,none⟩) hr1).trans s1))
      go_meet
      exact X0 HM.o (by have:=lG.o;omega) hnpos Cc.o hB1 hown1 (by unfold maxLen;omega) Zt.o HLOW.o
     case rest=>
      obtain⟨w2,rfl⟩:∃w2:World,w2=wc:=⟨_,rfl⟩;clear s1 qf1;obtain⟨gN,oN,cN2,gD,oD,cD2,vs2,Ae⟩:=hcut;obtain⟨ax,cx,t0,t1,t2,t3,t4⟩:=Ae.facts (k:=k) (d:=x.b) (by rw[List.getElem?_map,F7.o];rfl);rw[Cc.o]at t1;rw[←FH.o]at t2 t4;have hs2:=Ae.keeps.size;have hr2:r<w2.heap.size:=by omega
      have hgD:=Ae.newD.2;have hfD:=Ae.plD.frozen (oD+k);have J4:=acA Ae;have HXB:=acA t4;have HB2:acB (ah S w2 ab nb (bs.map bv)):=Y9.o.kept hs2 fun b hb hbw=>Ae.keeps.block b hbw (fq.o b hb);have HKW:acB (∀w4,Below w2.heap.size w2 w4→w4.cell? ⟨r,1,none⟩=some (.slice (some ⟨gD,oD,none⟩) n cD2)∧w4.cell? ⟨gD,oD+k,none⟩=some (.slice ax l cx)∧w4.frozen? ⟨gD,oD+k,none⟩=false):=fun w4 hb=>⟨by rw[hb.cell (p:=⟨r,1,none⟩) hr2];exact t1,by rw[hb.cell (p:=⟨gD,oD+k,none⟩) hgD];exact t2,by rw[hb.frozen (p:=⟨gD,oD+k,none⟩) hgD];exact hfD⟩;have HXR:acB (∀w4,Below w2.heap.size w2 w4→ah (fun b=>(F b∧b<w.heap.size∧b≠r)∨(w.heap.size≤b∧b<w2.heap.size∧b≠gN∧b≠gD)) w4 ax (l*1) (x.b.map bv)∧ah S w4 ab (nb*1) (bs.map bv)):=fun w4 hb=>by
       rw[Nat.mul_one,Nat.mul_one];exact⟨t4.below hb acC,HB2.o.below hb acC⟩
      obtain⟨i8,a8,b8,u8,t8⟩:=aap info8a;have Hu:=acA (And.intro a8 (And.intro b8 (And.intro u8 t8)));clear Ae t0 t3 t4 a8 b8 u8 t8;go_upto_region 10 with(fail)
      go_cut [] (fun wx=>Cu F w r (.slice aE (aX T).length cE) T ((List.map (fun q:Int×bP=>q.2.b) T).set k (x.b++bs)) wx)
      case first=>
       go_wp2;refine qA 17 ((fun w'=>w'.cell? ⟨r,1,none⟩=some (.slice (some ⟨gD,oD,none⟩) n cD2)∧w'.cell? ⟨gD,oD+k,none⟩=some (.slice ax l cx)∧w'.frozen? ⟨gD,oD+k,none⟩=false)) ?_ fun hS=> ?_
       ·exact HKW.o _ acD.drew
       refine au 0 hS ?_;refine au 1 hS ?_;refine au 2 hS ?_;refine au 3 hS ?_;refine au 4 hS ?_;refine au 6 hS ?_;refine au 7 hS ?_;refine au 8 hS ?_;refine au 9 hS ?_;refine au 10 hS ?_;refine au 11 hS ?_;refine au 12 hS ?_;refine au 14 hS ?_;refine bB 5 fun K hK=> ?_;go_simp;refine bK hK (HKW.o _ (acD.drew.alloc acC _)) fun hS=> ?_;clear hK K;refine bB 13 fun K hK=> ?_;refine aF (by rfl) (.tmp 61) (.tmp 68) 28 (by rfl) w2.heap.size 5 _ _ 1 1 Tryz.underlying28 Hu.o.1 Hu.o.2.1 Hu.o.2.2.1 Hu.o.2.2.2 rfl (by omega) _ 0 [] (by rfl) (gI (MapKept.heap_alloc w2.drew _).1 acC) _ l _ (x.b.map bv) (by rfl) (HXR.o _ (acD.drew.alloc acC _)).1 (eZ _) (by unfold maxLen;omega) (by omega) (by simp<;>omega) ?_;intro A1 c1z u1 hown1 hb1;have hB1:Below w2.heap.size w2 u1:=(acD.drew.alloc acC _).trans hb1;refine bK hK (HKW.o _ hB1) fun hS=> ?_;clear hK K;refine bB 15 fun K hK=> ?_;refine aF (by rfl) (.tmp 69) (.tmp 70) 28 (by rfl) w2.heap.size 5 _ _ 1 1 Tryz.underlying28 Hu.o.1 Hu.o.2.1 Hu.o.2.2.1 Hu.o.2.2.2 rfl (by omega) _ _ _ (by rfl) hown1 _ nb _ (bs.map bv) (by rfl) (HXR.o _ hB1).2 (eZ _) (by unfold maxLen;omega) (by omega) hB1.size ?_;intro A2 c2z u2 hown2 hb2;have hB2:Below w2.heap.size w2 u2:=hB1.trans hb2;refine bK hK (HKW.o _ hB2) fun hS=> ?_;clear hK K;refine au 16 hS ?_;refine bB 17 fun K hK=> ?_;go_simp;refine kX hK ?_;clear hS hK K;go_wp2_with fail
       go_meet
       exact Qv J4.o (by have:=Cc.o;omega) hB2 hown2 ⟨by simp,by rw[List.length_append,KY.o,←FH.o];omega,by omega⟩ (by unfold maxLen;omega)
      case rest=>
       obtain⟨w3,rfl⟩:∃w3:World,w3=wc:=⟨_,rfl⟩;clear t1 t2 hfD hgD hr2;obtain⟨gN,oN,cN3,gD,oD,cD3,vs3,hBB⟩:=hcut;obtain⟨ay,cy,t0,t1,t2,-,-⟩:=hBB.facts (k:=k) (d:=x.b++bs) (aa1 (by have:=Cc.o;omega));rw[←lG.o]at t0;rw[aa0,Cc.o]at t1;rw[List.length_append,KY.o,←FH.o]at t2;obtain⟨b',o',e',-,-,-,hcN⟩:=hBB.rowN.wide ig rfl F7.o (by omega);simp only[aac,aaS,aaI]at e';obtain⟨rfl,rfl⟩:=e';have t3:w3.cell? ⟨gN,oN+k*6+3,none⟩=some (.int .i64 (x.b.length:Nat)):=hcN 3 (by omega);have t4:=hBB.plN.frozen (oN+k*6+3);have RG:=acA hBB;have HT0:=acA t0;clear hBB hcN;go_wp2;refine qA 15 ((fun w'=>w'.cell? ⟨r,0,none⟩=some (.slice (some ⟨gN,oN,none⟩) n cN3)∧w'.cell? ⟨r,1,none⟩=some (.slice (some ⟨gD,oD,none⟩) n cD3)∧w'.cell? ⟨gD,oD+k,none⟩=some (.slice ay (l+nb) cy)∧w'.cell? ⟨gN,oN+k*6+3,none⟩=some (.int .i64 (x.b.length:Nat))∧w'.frozen? ⟨gN,oN+k*6+3,none⟩=false)) ?_ fun hS=> ?_
       ·exact⟨t0,t1,t2,t3,t4⟩
       refine au 0 hS ?_;refine au 1 hS ?_;refine au 2 hS ?_;refine au 3 hS ?_;refine au 4 hS ?_;refine au 5 hS ?_;refine au 6 hS ?_;refine au 7 hS ?_;refine au 8 hS ?_;refine au 9 hS ?_;refine au 10 hS ?_;refine au 11 hS ?_;refine au 12 hS ?_;refine au 13 hS ?_;refine au 14 hS ?_;refine bB 15 fun K hK=> ?_;go_simp;refine kX hK ?_;clear hS hK K;go_wp2_with fail;go_ret;rw[HQ.o];have h7:=UH HH.o Af.o RG.o F7.o (q':=(id,{x with b:=x.b++bs})) (v3:= .int .i64 ((l+nb:Nat):Int)) (by
        show _=_;have e9:(x.b++bs).length=l+nb:=by rw[List.length_append,KY.o,←FH.o]
        unfold dV;simp only[e9];rfl) (.int .i64 0)
       rw[←Nat.add_assoc]at h7;have h8:=qp (f:=fun x:bP=>{x with b:=x.b++bs}) HS.o F7.o;have h9:=data_set (f:=fun x:bP=>{x with b:=x.b++bs}) HS.o F7.o;simp only at h8 h9;rw[h8,←h9]at h7;have h10:=h7.then_ HH.o.low acD.drew;refine⟨h10.1,h10.2.1,?_⟩;rw[ow (fun _=>by exact rfl)];exact h10.2.2
 ·have HQ:=acA (vU (T:=T) (id:=id) (bs:=bs) (v:=bV T id) (by
   unfold mK bV at*;cases hx:aj id T with
   |none=>rfl
   |some x=>
    rw[hx]at h0;by_cases hk:x.kind=2
    ·simp[hk]
    ·exact absurd (by simp[hk]) h0) h0)
  generalize bV T id=f at*;have hne:(f==0)=false:=by simpa using h0
  have hne2:(f !=0)=true:=by simpa using h0
  clear h hT h0 hbs hbl hSr;go_enter Tryz.func107,Tryz.ntmps107;go_wp2_with fail;refine HF.o.mono ?_;rintro e w1 ⟨rfl,rfl⟩;go_wp2_with fail;go_ret;exact bO.no HH.o acD HQ.o
end
def NewRef(w:World)(e:Ending)(w':World):Prop:=∃r,e= .returned (ptr r)∧jW (fun x=>w.heap.size≤x∧x<w'.heap.size) w' r wX∧Below w.heap.size w w'
theorem Qw(w:World)(o1 o2 o3:Obj):(((w.alloc o1).alloc o2).alloc o3).heap[w.heap.size]? =some o1∧(((w.alloc o1).alloc o2).alloc o3).heap[w.heap.size+1]? =some o2∧(((w.alloc o1).alloc o2).alloc o3).heap[w.heap.size+2]? =some o3:=by
 have h1:=(MapKept.heap_alloc w o1).1;have h2:=(MapKept.heap_alloc (w.alloc o1) o2).1;have h3:=(MapKept.heap_alloc ((w.alloc o1).alloc o2) o3).1;rw[aad]at h2;rw[aad,aad]at h3;exact⟨((wall _ o3).block _ (by simp;omega)).trans (((wall _ o2).block _ (by simp)).trans h1),((wall _ o3).block _ (by simp)).trans h2,h3⟩
theorem UJ(w:World):Calls Tryz.prog 22 #[] w (NewRef w):=by
 go_enter Tryz.func22,Tryz.ntmps22;go_wp2;go_ret;obtain⟨h0,h1,h2⟩:=Qw w (.cells #[.int .i64 0,.int .i64 2,.int .i64 1,.int .i64 0,.int .u64 0,.bool true] 39) (.cells #[.slice none 0 0] 28) (.cells #[.slice (some ⟨w.heap.size,0,none⟩) 1 1,.slice (some ⟨w.heap.size+1,0,none⟩) 1 1,.slice none 0 0] 113);refine⟨w.heap.size+2,rfl,⟨⟨some ⟨w.heap.size,0,none⟩,1,some ⟨w.heap.size+1,0,none⟩,1,none,0,h2,Nat.le_refl _,Nat.le_refl _,Nat.le_refl _,?_,⟨[.slice none 0 0],?_,?_⟩,ah.nil _ _ _,.inl ⟨rfl,rfl⟩⟩,?_,?_⟩,?_⟩
 ·exact(lS (vs:=dV (0,dh 2)) h0 (by simp[dV,maxLen])).mono fun b hb=>by subst hb;exact⟨⟨Nat.le_refl _,by simp;omega⟩,by omega⟩
 ·exact(lS (vs:=[.slice none 0 0]) h1 (by simp[maxLen])).mono fun b hb=>by subst hb;exact⟨⟨by omega,by simp⟩,by omega⟩
 ·intro i b hb;cases i with
  |zero=>
   have:b=[]:=(aaK hb).symm;subst this;exact⟨none,0,rfl,⟨Nat.le_refl _,by simp[maxLen]⟩,ah.nil _ _ _⟩
  |succ i=>simp[wX]at hb
 ·exact⟨by omega,by simp⟩
 ·exact fun b hb=>hb.2
 ·exact((acD.alloc acC _).alloc (by simp) _).alloc (by simp;omega) _
def iJ(o:Mark)(j:Nat)(w:World)(r:Nat)(T:aL):Prop:=∃F,jW F w r T∧o r=j∧∀b,F b→b≠r→o b=0
theorem iJ.step{o o':Mark}{I:Nat→Prop}{j:Nat}{w w':World}{r:Nat}{T:aL}(h:iJ o j w r T)(hi:¬I 0)(hij:¬I j)(hs:Step o I w o' w'):iJ o' j w' r T:=by
 obtain⟨F,hR,hr,hF⟩:=h;refine⟨F,hR.keeps hs.keep fun b hb hI=> ?_,(hs.old r (hR.low r hR.own)).trans hr,fun b hb hbr=>(hs.old b (hR.low b hb)).trans (hF b hb hbr)⟩;by_cases hbr:b=r
 ·subst hbr;exact hij (hr▸hI)
 ·exact hi (hF b hb hbr▸hI)
theorem iJ.grow{o:Mark}{j:Nat}{w w':World}{r:Nat}{T:aL}(h:iJ o j w r T)(hb:Below w.heap.size w w'):iJ o j w' r T:=by
 obtain⟨F,hR,hr,hF⟩:=h;exact⟨F,hR.below hb acC,hr,hF⟩
def RO(o:Mark)(j:Nat)(w:World)(r:Nat)(T':aL)(v:Value)(e:Ending)(w':World):Prop:=
 e= .returned v∧∃o',Step o (fun k=>k=j) w o' w'∧iJ o' j w' r T'
theorem RO.of{W w w':World}{o:Mark}{j r:Nat}{T':aL}{F:Nat→Prop}{v:Value}{e:Ending}(hM:Marks W o w)(hrF:F r)(hr:o r=j)(hF:∀b,F b→b≠r→o b=0)(h:bO F w r T' v e w'):RO o j w r T' v e w':=by
 refine⟨h.1,o,⟨fun _ _=>rfl,fun b hb hn=> ?_,h.2.1.mono fun x _ hx=> ?_⟩,_,h.2.2,hr,fun b hb hbr=> ?_⟩
 ·have:=(hM.new b hn).2;omega
 ·show o x=j;rw[hx];exact hr
 ·rcases hb with hb|hb
  ·exact hF b hb hbr
  ·exact aaj fun h0=>by have:=(hM.new b h0).2;omega
section
variable{W w:World}{o:Mark}{j r:Nat}{T:aL}
theorem X3{S:Nat→Prop}(h:iJ o j w r T)(hM:Marks W o w)(hT:dG T)(a:Option Addr)(n0 c0:Nat)(ls:List Nm)(kind:Int)(hS:aK S w a n0 (ls.map strOf))(hc:n0≤c0)(lF:n0≤1000000):
  Calls Tryz.prog 100 #[ptr r,.slice a n0 c0,.int .i64 kind] w (RO o j w r (b_ T ls kind).2 (.tuple #[.int .i64 (b_ T ls kind).1.1,.int .i64 (b_ T ls kind).1.2])):=by
 obtain⟨F,hR,hr,hF⟩:=h;exact(Qu a n0 c0 ls kind w hR hT hS hc lF).mono fun e w' ht=>RO.of hM hR.own hr hF ht
theorem X4{S S':Nat→Prop}(h:iJ o j w r T)(hM:Marks W o w)(hT:dG T)(a:Option Addr)(n c:Nat)(ls:List Nm)(a':Option Addr)(n' c':Nat)(ls':List Nm)(hS:aK S w a n (ls.map strOf))(hS':aK S' w a' n' (ls'.map strOf))(hc':n'≤c')(Dh:n'≤1000000):
  Calls Tryz.prog 46 #[ptr r,.slice a n c,.slice a' n' c'] w (RO o j w r (fM T ls ls').2 (.int .i64 (fM T ls ls').1)):=by
 obtain⟨F,hR,hr,hF⟩:=h;exact(Qk a n c ls a' n' c' ls' w hR hT hS hS' hc' Dh).mono fun e w' ht=>RO.of hM hR.own hr hF ht
theorem Qx{S:Nat→Prop}(h:iJ o j w r T)(hM:Marks W o w)(hT:dG T)(a:Option Addr)(n c:Nat)(ls:List Nm)(hS:aK S w a n (ls.map strOf))(hc:n≤c)(lF:n≤1000000):
  Calls Tryz.prog 121 #[ptr r,.slice a n c] w (RO o j w r (bC T ls).2 (.int .i64 (bC T ls).1)):=by
 obtain⟨F,hR,hr,hF⟩:=h;exact(Kh a n c ls w hR hT hS hc lF).mono fun e w' ht=>RO.of hM hR.own hr hF ht
theorem UK{S:Nat→Prop}(h:iJ o j w r T)(hM:Marks W o w)(hT:dG T)(a:Option Addr)(n c:Nat)(ls:List Nm)(hS:aK S w a n (ls.map strOf))(hc:n≤c)(lF:n≤1000000):
  Calls Tryz.prog 47 #[ptr r,.slice a n c] w (RO o j w r (dP T ls).2 (.int .i64 (dP T ls).1)):=by
 obtain⟨F,hR,hr,hF⟩:=h;exact(MI a n c ls w hR hT hS hc lF).mono fun e w' ht=>RO.of hM hR.own hr hF ht
theorem Qy{S S':Nat→Prop}(h:iJ o j w r T)(hM:Marks W o w)(hO:jm T)(a:Option Addr)(n c:Nat)(ls:List Nm)(a':Option Addr)(n' c':Nat)(ls':List Nm)(hS:aK S w a n (ls.map strOf))(hS':aK S' w a' n' (ls'.map strOf))(hc:n≤c)(lF:n≤1000000)(hc':n'≤c')(Dh:n'≤1000000):
  Calls Tryz.prog 48 #[ptr r,.slice a n c,.slice a' n' c'] w (RO o j w r (bf T ls ls').2 (.int .i64 (bf T ls ls').1)):=by
 obtain⟨F,hR,hr,hF⟩:=h;exact(Kl a n c ls a' n' c' ls' w hR hO hS hS' hc lF hc' Dh).mono fun e w' ht=>RO.of hM hR.own hr hF ht
theorem Qz{S:Nat→Prop}(h:iJ o j w r T)(hM:Marks W o w)(hj:j≠0)(hT:dG T)(id:Int)(ab:Option Addr)(nb cb:Nat)(bs:List UInt8)(hbs:ah S w ab nb (bs.map bv))(hSr:∀b,S b→o b=0)(hnb:nb≤1000000):
  Calls Tryz.prog 107 #[ptr r,.int .i64 id,.slice ab nb cb] w (RO o j w r (dw T id bs).2 (.int .i64 (dw T id bs).1)):=by
 obtain⟨F,hR,hr,hF⟩:=h;exact(Kq id ab nb cb bs w hR hT hbs (fun b hb e=>by have:=hSr b hb;rw[e,hr]at this;exact hj this) hnb).mono fun e w' ht=>RO.of hM hR.own hr hF ht
theorem X5(h:iJ o j w r T)(hM:Marks W o w)(hT:dG T)(id aA:Int)(ht0:0≤aA∧aA≤18446744073709551615):
  Calls Tryz.prog 108 #[ptr r,.int .i64 id,.int .u64 aA] w (RO o j w r (eF T id aA).2 (.int .i64 (eF T id aA).1)):=by
 obtain⟨F,hR,hr,hF⟩:=h;exact(Qo id aA w hR hT ht0).mono fun e w' ht=>RO.of hM hR.own hr hF ht
theorem X6(h:iJ o j w r T)(hM:Marks W o w)(hT:dG T)(id aA:Int)(ht0:0≤aA∧aA≤18446744073709551615):
  Calls Tryz.prog 120 #[ptr r,.int .i64 id,.int .u64 aA] w (RO o j w r (eX T id aA).2 (.int .i64 (eX T id aA).1)):=by
 obtain⟨F,hR,hr,hF⟩:=h;exact(Qn id aA w hR hT ht0).mono fun e w' ht=>RO.of hM hR.own hr hF ht
theorem X7(h:iJ o j w r T)(hM:Marks W o w)(hT:dG T)(id:Int):
  Calls Tryz.prog 177 #[ptr r,.int .i64 id] w (RO o j w r (fB T id).2 (.int .i64 (fB T id).1)):=by
 obtain⟨F,hR,hr,hF⟩:=h;exact(Qs id w hR hT).mono fun e w' ht=>RO.of hM hR.own hr hF ht
theorem UL(hM:Marks W o w)(j:Nat):Calls Tryz.prog 22 #[] w fun e w'=>∃r o',e= .returned (ptr r)∧Step o (fun k=>k=j) w o' w'∧iJ o' j w' r wX:=by
 refine(UJ w).mono fun e w' ⟨r,he,hR,hb⟩=> ?_;obtain⟨o',hs,h1,h2⟩:=gW hM j (fun b=>b=r) (fun b hb'=>by subst hb';exact hR.own) hb;refine⟨r,o',he,hs,_,hR,h1 r rfl,fun b hb' hbr=> ?_⟩;rw[h2 b hbr];exact aaj fun h0=>by have:=(hM.new b h0).2;omega
end
end Go.Proofs.YtjnhnlabpccgjaaGreatDoor
