/- worm -/
import Derived.Test.YtjnhnlabpccgjaaGreatDoorM13
import Derived.Test.YtjnhnlabpccgjaaGreatDoorM27
import Derived.Test.YtjnhnlabpccgjaaGreatDoorM10
import Derived.Test.YtjnhnlabpccgjaaGreatDoorM21
import Derived.Test.YtjnhnlabpccgjaaGreatDoorM24
import Derived.Test.YtjnhnlabpccgjaaGreatDoorM25
import Derived.Test.YtjnhnlabpccgjaaGreatDoorM16
import Derived.Test.YtjnhnlabpccgjaaGreatDoorM08
set_option maxRecDepth 100000
set_option maxHeartbeats 64000000
set_option linter.all false
namespace Go.Proofs.YtjnhnlabpccgjaaGreatDoor
open Go.ChangeShapes Go.WideShapes Go.ChangeAt Go.RowKit
theorem Cj:(Tryz.prog.info? 3).map (fun i=>(i.zero,i.size,i.bytes))=some (some (.int .i64 0),1,8):=by kernel_rfl
def ug(x:bP)(now:Int):Bool:=decide (x.kind=1)&&x.closed&&decide (now<x.aA)
def iX(T:aL)(now:Int):List Int:=(T.filter fun q=>ug q.2 now).map (·.1)
theorem DC{T:aL}{now:Int}{k:Nat}{q:Int×bP}(h:T[k]? =some q):iX (T.take (k+1)) now=iX (T.take k) now++if ug q.2 now then[q.1]else[]:=by
 obtain⟨hk,e⟩:=aae.1 h;unfold iX;rw[aah hk,e,aaZ,List.map_append];congr 1;by_cases hl:ug q.2 now<;>simp[hl]
theorem P6(T:aL)(now:Int)(k:Nat):(iX (T.take k) now).length≤k:=by
 unfold iX;rw[List.length_map];refine Nat.le_trans (aaY _ _) ?_;rw[aan];omega
theorem DF(zs:List Int):∀u∈zs.map (Value.int .i64),u.oneCell'=true:=by
 intro u hu;obtain⟨x,_,rfl⟩:=List.mem_map.1 hu;rfl
theorem P7{w w':World}{base:Nat}{e:TypeId}{size:Nat}{v:Value}{n:Nat}{xs:List Value}{fp:Nat→Prop}(h:w.ownsRow base e size v n xs)(hK:Keeps fp w w')(hn:∀b,v.ownBlock=some b→¬fp b):w'.ownsRow base e size v n xs:=by
 refine⟨h.1,?_⟩;rcases h.2 with h0|⟨g,cap,cur,rfl,hb,hg,r⟩
 ·exact .inl h0
 ·exact .inr ⟨g,cap,cur,rfl,hb,(hK.block g (iA.1 hg).1 (hn g rfl)).trans hg,r⟩
theorem Ck{w:World}{base:Nat}{e:TypeId}{size:Nat}{v:Value}{n:Nat}{xs:List Value}(h:w.ownsRow base e size v n xs):∀b,v.ownBlock=some b→b<w.heap.size:=by
 intro b hb;rcases h.2 with⟨rfl,_⟩|⟨g,cap,cur,rfl,_,hg,_⟩
 ·cases hb
 ·cases hb;exact(iA.1 hg).1
theorem qo{w w':World}{base:Nat}{e:TypeId}{size:Nat}{v:Value}{n:Nat}{xs:List Value}(h:w.ownsRow base e size v n xs)(hb:Below w.heap.size w w'):w'.ownsRow base e size v n xs:=
 P7 h (Keeps.below hb) fun b hv hf=>by have:=Ck h b hv;omega
section
variable{g:Nat→Own}{D:Nat→Prop}{p mb:Nat}{ib nb:Int→Nat}{T:aL}
theorem Ub(now:Int)(w:World)(h:aO g D w p mb ib nb T)(hT:dG T):Calls Tryz.prog 198 #[ptr p,.int .u64 now] w (Ca w (iX T now)):=by
 obtain⟨ti,hi,hz0,hz1,hz2⟩:=aap Cj;have hlen:=hT.len;have HH:=acA h;have HT:=acA hT;have HIDS:=acA (Gu w h (by omega));clear h hT;go_enter Tryz.func198,Tryz.ntmps198;go_wp2_with fail;refine HIDS.o.mono ?_;rintro e w1 ⟨a,cap,rfl,hcap,hr,hB⟩;have hil:(lJ T).length=T.length:=by unfold lJ;rw[List.length_map]
 obtain⟨n,hn⟩:∃n,n=(lJ T).length:=⟨_,rfl⟩;rw[←hn]at hcap hr⊢;have hn64:n≤64:=by omega
 have R6:acB (n=T.length):=by have:n=T.length:=by omega
                              exact this
 have HR:=acA hr;have HB:=acA hB;have hs1:=hB.size;clear hn hr hB hil HIDS;go_wp2_with fail
 go_loopw [5,16] (fun v i wr=>∃k:Nat,k≤n∧i= .int .i64 k∧wr.ownsRow w1.heap.size 3 1 v (iX (T.take k) now).length ((iX (T.take k) now).map (Value.int .i64))∧Below w1.heap.size w1 wr) (fun _ i _=>n-(intOf i).toNat)
 case atStart=>exact⟨0,by omega,rfl,⟨rfl,.inl ⟨rfl,rfl⟩⟩,Below.refl _ _⟩
 case round=>
  obtain⟨k,hk,rfl,hO,hb⟩:=hrel;have hbs:=hb.size;by_cases hlt:k<n
  ·obtain⟨q,hq⟩:∃q,T[k]? =some q:=⟨_,List.getElem?_eq_getElem (by have:=R6.o;omega)⟩;obtain⟨j,x⟩:=q;obtain⟨bb,off,rfl,_,hbw,hcells⟩:=HR.o.at_ (by omega);have hc0:w1.cell? ⟨bb,off+k,none⟩=some (.int .i64 j):=by
    rw[hcells k hlt,List.getElem?_map];unfold lJ;rw[List.getElem?_map,hq];rfl
   have hc1:wr.cell? ⟨bb,off+k,none⟩=some (.int .i64 j):=(hb.cell (p:=⟨bb,off+k,none⟩) hbw).trans hc0;have hx:aj j T=some x:=cK fC HT.o.sorted (aax hq);have rY:=HT.o.ids j x hx;have hBr:=HB.o.trans (hb.mono hs1);have Uc:=yO j wr (HH.o.below hBr acC) (jU rY.1 (by omega));have hnm:gq T j= .agg #[.int .i64 j,.int .i64 x.kind,.int .i64 x.links,.int .i64 x.b.length,.int .u64 x.aA,.bool x.closed]:=by unfold gq;rw[hx];rfl
   rw[hnm,hx]at Uc;have HN:=acA Uc;have KZ:=acA (DC (now:=now) hq);have EH:=acA (P6 T now k);have HO:=acA hO;have KY:=acA hb;clear Uc hnm hx hcells hc0 hO hb rY hq;obtain⟨a5,c5,rfl,Ud⟩:=dI HO.o;by_cases hl:ug x now=true
   ·have HL:=acA hl;simp only[ug,aaQ,aal]at hl;obtain⟨⟨hk1,hcl⟩,htl⟩:=hl;have Ue:JX now x.aA=false:=by unfold JX;simp;omega
    have HD:=acA Ue;rw[hcl,hk1]at HN;clear hk1 hcl htl Ue;go_wp2_with fail;refine HN.o.mono ?_;rintro e w3 ⟨rfl,hb3⟩;have hs3:=hb3.size;have hb4:Below wr.heap.size wr (w3.alloc (.cells #[.int .i64 j,.int .i64 1,.int .i64 x.links,.int .i64 x.b.length,.int .u64 x.aA,.bool true] 39)):=hb3.trans ((wall _ _).mono hs3);have hb5:Below wr.heap.size wr ((w3.alloc (.cells #[.int .i64 j,.int .i64 1,.int .i64 x.links,.int .i64 x.b.length,.int .u64 x.aA,.bool true] 39)).alloc (.cells #[.int .i64 j] 3)):=hb4.trans ((wall _ _).mono hb4.size);have JL:=acA (qo HO.o hb5);have iL:=acA (rO (w:=w3.alloc (.cells #[.int .i64 j,.int .i64 1,.int .i64 x.links,.int .i64 x.b.length,.int .u64 x.aA,.bool true] 39)) (.int .i64 j) 3);rw[aad]at iL;have fH:=acA hb5;have Ci:=hb5.size;have hle:=EH.o;clear hb3 hb4 hb5;go_wp2_with (first|(go_at_call 192;refine(uf _ _ _).mono ?_;rintro e w4 ⟨rfl,rfl⟩;rw[HD.o])|(at_builtin;refine aS (by rfl) _ _ 71 (by rfl) w1.heap.size 3 ti (.int .i64 0) 8 Tryz.underlying71 hi hz0 hz1 hz2 rfl _ _ _ (by rfl) JL.o (some ⟨w3.heap.size+1,0,none⟩) 1 1 [.int .i64 j] (by rfl) iL.o (DF [j]) (by unfold maxLen;omega) (by omega) (by omega) ?_;intro A' c' w6 hown6 vN _ _));have RA:=acA hown6;have HG6:=acA vN;clear hown6 vN;go_roundw
    case rel=>
     refine⟨k+1,by omega,by go_num,?_,?_⟩
     ·rw[KZ.o,HL.o,if_pos rfl,List.map_append,List.length_append];exact RA.o
     ·exact(KY.o.trans (fH.o.mono hbs)).grown HG6.o (by omega) (bA JL.o)
    case measure=>simp[intOf];omega
   ·have HL:=acA hl;have Zm:iX (T.take (k+1)) now=iX (T.take k) now:=by rw[KZ.o,if_neg hl,aaE]
    have HR0:=acA Zm;have hfin:∀w3,Below wr.heap.size wr w3→w3.ownsRow w1.heap.size 3 1 (.slice a5 (iX (T.take k) now).length c5) (iX (T.take (k+1)) now).length ((iX (T.take (k+1)) now).map (Value.int .i64))∧Below w1.heap.size w1 w3:=fun w3 hb=>by
     rw[HR0.o];exact⟨qo HO.o hb,KY.o.trans (hb.mono hbs)⟩
    have lQ:=acA hfin;clear Zm hfin;by_cases hk1:x.kind=1
    ·cases hcl:x.closed with
     |true=>
      have Ue:JX now x.aA=true:=by
       by_cases htl:now<x.aA
       ·exact absurd (by simp[ug,hk1,hcl,htl]) hl
       ·unfold JX;simp;omega
      have HD:=acA Ue;rw[hcl,hk1]at HN;clear hk1 hcl Ue hl;go_wp2_with fail;refine HN.o.mono ?_;rintro e w3 ⟨rfl,hb3⟩;have HB3:=acA hb3;clear hb3;go_wp2_with (go_at_call 192;refine(uf _ _ _).mono ?_;rintro e w4 ⟨rfl,rfl⟩;rw[HD.o]);go_roundw
      case rel=>
       obtain⟨e1,e2⟩:=lQ.o _ (HB3.o.trans ((wall _ _).mono HB3.o.size));exact⟨k+1,by omega,by go_num,e1,e2⟩
      case measure=>simp[intOf];omega
     |false=>
      rw[hcl,hk1]at HN;clear hk1 hcl hl;go_wp2_with fail;refine HN.o.mono ?_;rintro e w3 ⟨rfl,hb3⟩;have HB3:=acA hb3;clear hb3;go_wp2_with fail;go_roundw
      case rel=>
       obtain⟨e1,e2⟩:=lQ.o _ (HB3.o.trans ((wall _ _).mono HB3.o.size));exact⟨k+1,by omega,by go_num,e1,e2⟩
      case measure=>simp[intOf];omega
    ·have e1:(x.kind==1)=false:=by simpa using hk1
     clear hk1 hl;go_wp2_with fail;refine HN.o.mono ?_;rintro e w3 ⟨rfl,hb3⟩;have HB3:=acA hb3;clear hb3;go_wp2_with fail;go_roundw
     case rel=>
      obtain⟨e1,e2⟩:=lQ.o _ (HB3.o.trans ((wall _ _).mono HB3.o.size));exact⟨k+1,by omega,by go_num,e1,e2⟩
     case measure=>simp[intOf];omega
  ·obtain rfl:n=k:=by omega
   rw[List.take_of_length_le (by rw[R6.o];exact Nat.le_refl _)]at hO;obtain⟨a2,c2,rfl,hac⟩:=dI hO;have HO:=acA hO;have KY:=acA hb;clear hO hb;go_wp2;go_ret;exact⟨a2,c2,rfl,hac,(ah.pJ HO.o).2.mono (fun b hb=>⟨by omega,hb.2⟩),HB.o.trans (KY.o.mono hs1)⟩
theorem P8(now:Int)(w:World)(h:aO g D w p mb ib nb T)(hT:dG T):Calls Tryz.prog 161 #[ptr p,.int .u64 now] w fun e w'=>e= .returned (.bool (decide (0<(iX T now).length)))∧Below w.heap.size w w':=by
 have HL:=acA (Ub now w h hT);clear h hT;obtain⟨zs,hzs⟩:∃zs,zs=iX T now:=⟨_,rfl⟩;rw[←hzs]at HL⊢;clear hzs;go_enter Tryz.func161,Tryz.ntmps161;go_wp2_with fail;refine HL.o.mono ?_;rintro e w1 ⟨a,cap,rfl,hcap,hr,hB⟩;have HB:=acA hB;clear hr hB;go_wp2_with fail;go_ret;exact⟨gU (by simp),HB.o⟩
end
section
variable{W w:World}{P:Nat→Prop}{p:Nat}{T:aL}
end
section
variable{w:World}{o:Mark}{i s:Nat}{S:rE}
end
def Aq(T:aL)(now:Int):Bool:=decide (0<(iX T now).length)
def EP(S:rE)(k:Nat):rE:=⟨S.l.take k++S.l.drop (k+1),S.next,S.last⟩
def Cm(S:rE)(id now er:Int)(S':rE):Prop:=
 (er=29∧S'=S∧∀x∈S.l,x.id≠id)∨∃(k:Nat) (x:jC),S.l[k]? =some x∧x.id=id∧(∀x'∈S.l.take k,x'.id≠id)∧((Aq x.t now=true∧er=28∧S'=S)∨(Aq x.t now=false∧er=0∧S'=EP S k))
theorem FT{F:Nat→Prop}{w w1:World}{b off n c k s:Nat}{vs:List Value}(h:ah F w (some ⟨b,off,none⟩) (n*s) vs)(hk:k<n)(hb:Below w.heap.size w w1):
  ah F w1 (some ⟨b,off,none⟩) (k*s) (vs.take (k*s))∧ah F w1 (if c=k+1 then some ⟨b,off,none⟩else some ⟨b,off+(k+1)*s,none⟩) ((n-(k+1))*s) (vs.drop ((k+1)*s))∨c<n:=by
 by_cases hcn:c<n
 ·exact .inr hcn
 ·left;have h1:=h.below hb acC;have h2:=h1.take (k*s);have hks:k*s≤n*s:=acf s (by omega);rw[abv hks]at h2;have h4:=h1.drop ((k+1)*s);rw[←Nat.sub_mul]at h4;refine⟨h2,?_⟩;by_cases hce:c=k+1
  ·rw[if_pos hce];have hl:=h.length;have hkn:k+1=n:=by omega
   exact ah.zero _ _ _ (by rw[show n-(k+1)=0 by omega,abE]) (by rw[hkn];exact aaD (by omega))
  ·rw[if_neg hce];exact h4
theorem vK.one{o:Mark}{w:World}{vs:List Value}{x:jC}(h:vK o w vs x):∀u∈vs,u.oneCell'=true:=by
 obtain⟨a,c,q,h1,_⟩:=h;intro u hu;rw[h1]at hu;simp only[aay,aaW,abT]at hu;rcases hu with rfl|rfl|rfl<;>rfl
theorem eH.one{o:Mark}{w:World}:∀{vs:List Value} {l:List jC},eH o w vs l→∀u∈vs,u.oneCell'=true
 |_,[],h=>by have h1:_=[]:=h;rw[h1];intro u hu;cases hu
 |_,x::r,⟨v1,v2,h1,h2,h3⟩=>by
  intro u hu;rw[h1]at hu;rcases aaL.1 hu with hu|hu
  ·exact h2.one u hu
  ·exact eH.one h3 u hu
theorem P9(w:World)(x y:Value)(t:TypeId):(w.alloc (.cells #[x,y] t)).drew.cell? ⟨w.heap.size,0,none⟩=some x∧(w.alloc (.cells #[x,y] t)).drew.cell? ⟨w.heap.size,1,none⟩=some y∧w.heap.size<(w.alloc (.cells #[x,y] t)).drew.heap.size:=by
 have h:=(MapKept.heap_alloc w (.cells #[x,y] t)).1;have h2:(w.alloc (.cells #[x,y] t)).drew.heap[w.heap.size]? =some (.cells #[x,y] t (0,0)):=h;refine⟨?_,?_,?_⟩
 ·unfold World.cell?;simp only[h2];rfl
 ·unfold World.cell?;simp only[h2];rfl
 ·exact(iA.1 h2).1
section
variable{W w:World}{o:Mark}{i s:Nat}{S:rE}
theorem Mh{w8:World}{v v8:Value}{vals:List Value}{k B lc:Nat}{la:Option Addr}(hM:Marks W o w)(hi:i≠0)(hh:w.heap[s]? =some (.cells #[v,.int .i64 S.next,.slice la S.last.length lc] 109 (0,0)))
  (hos:o s=i)(hsw:s<w.heap.size)(hO:eH o w vals S.l)(hlc:S.last.length≤lc)(hlr:ah (fun b=>o b=0∧b<w.heap.size) w la S.last.length (S.last.map bv))(hb:Below w.heap.size w w8)
  (hown:w8.ownsRow B 148 3 v8 (S.l.take k++S.l.drop (k+1)).length (vals.take (k*3)++vals.drop ((k+1)*3)))(hB:w.heap.size≤B):
  ∃o',Step o (fun j=>j=i) w o' (w8.setCell ⟨s,0,none⟩ v8)∧iF o' i (w8.setCell ⟨s,0,none⟩ v8) s (EP S k):=by
 obtain⟨o',hs,h1,h2⟩:=gW hM i (fun b=>v8.ownBlock=some b) (w':=w8) (fun b hb'=>⟨by have:=bA hown b hb';omega,kR hown b hb'⟩) hb;have hi0:¬(fun j=>j=i) 0:=fun e=>hi e.symm;have IG:w8.heap[s]? =_:=(hb.block s hsw).trans hh;have hz:=size_set w8 ⟨s,0,none⟩ v8;have hst:Step o (fun j=>j=i) w o' (w8.setCell ⟨s,0,none⟩ v8):=by
  refine hs.trans ⟨fun _ _=>rfl,fun b hb' hn=> ?_,(Keeps.f_ w8 ⟨s,0,none⟩ v8).mono fun x _ hx=>by
   have hx:x=s:=hx;rw[hx];exact(hs.old s hsw).trans hos⟩
  have:=(hs.new b (Nat.le_trans hb.size hb') hn).2;omega
 have hst2:Step o (fun j=>j=i) w o' w8:=hs;refine⟨o',hst,⟨v8,la,lc,_,aI IG,(hst.old s hsw).trans hos,by have:=hb.size;omega,?_,fun b hb'=> ?_,eH.append ((hO.take k).step hi0 hst) ((hO.drop (k+1)).step hi0 hst),hlc,?_⟩⟩
 ·exact zk (dJ hown fun b hb' _=>aV _ _ _ _ (by have:=bA hown b hb';simp only;omega)) (Nat.zero_le _)
 ·exact⟨h1 b hb',by have:=bA hown b hb';omega,by have:=kR hown b hb';omega⟩
 ·exact hlr.move hst.keep.size fun b hb' _=>⟨⟨(hst.old b hb'.2).trans hb'.1,Pd hb'.2 hst.keep.size⟩,hst.block hb'.2 (by rw[hb'.1];exact hi0)⟩
theorem Mi(hS:iF o i w s S)(hM:Marks W o w)(hi:i≠0)(uW:S.l.length≤8)(id now:Int):
  Calls Tryz.prog 84 #[ptr s,.int .i64 id,.int .u64 now] w fun e w'=>∃er S' o',e= .returned (.int .i64 er)∧Cm S id now er S'∧Step o (fun k=>k=i) w o' w'∧iF o' i w' s S':=by
 have HS:=acA hS;have HM:=acA hM;obtain⟨v,la,lc,vals,h1,h2,h3,h4,h5,h6,h7,h8⟩:=hS.at_;obtain⟨a,c,rfl,hcap⟩:=dI h4;obtain⟨-,-,hrow⟩:=ah.qd h4 (by unfold maxLen;omega);have HF:=acA (JF hS id (by omega));have HH:=acA h1;have xI:=acA h6;have Xy:=acA h8;have Ma:=acA h7;have Xq:=acA h2;have iL:=acA hrow;obtain⟨n,hn⟩:∃n,n=S.l.length:=⟨_,rfl⟩;have HN:=acA hn;rw[←hn]at hcap uW;clear hS hM h1 h2 h4 h5 h6 h7 h8 hrow hn;go_enter Tryz.func84,Tryz.ntmps84;go_wp2_with fail;refine HF.o.mono ?_;rintro e w1 ⟨v,rfl,hf,hb1⟩;have HB1:=acA hb1;clear hb1;rcases hf with⟨rfl,hno⟩|⟨k,x,rfl,hx,hid,hno⟩
 ·have zM:=acA hno;clear hno;go_wp2_with fail;go_ret;exact⟨29,S,o,rfl,.inl ⟨rfl,rfl,zM.o⟩,Step.grow HM.o HB1.o,HS.o.grow HM.o HB1.o⟩
 ·have hkn:k<n:=by rw[HN.o];exact(aae.1 hx).1
  have HRW:=iL.o;rw[←HN.o]at HRW;obtain⟨g,off,rfl,hgw,_,hcell⟩:=HRW.at_ (by omega);have HRX:=acA HRW;obtain⟨ha,hcp,q,e0,e1,e2,e3,e4,e5,e6⟩:=xI.o.at_ hx;have d2:w1.cell? ⟨g,off+k*3+2,none⟩=some (ptr q):=(HB1.o.cell (p:=⟨g,off+k*3+2,none⟩) hgw.2).trans ((hcell (k*3+2) (by omega)).trans e2);have hbS:=HB1.o.block s h3;have c0:w1.cell? ⟨s,0,none⟩=some (.slice (some ⟨g,off,none⟩) n c):=by
   have:=hbS.trans HH.o;rw[HN.o];simp[World.cell?,this]
  obtain⟨gg,D,mb,ib,nb,hA,Tz,hD9⟩:=e5.grow HB1.o;have RB:=acA (P8 now w1 hA e6);have Zg:=acA (And.intro hx (And.intro hid hno));have hneg:¬((k:Int)<0):=by omega
  have i0:(0:Int)≤k:=by omega
  have i1:(k:Int)<n:=by omega
  have i1':(k:Int)≤c:=by omega
  have i2:(k:Int)+1≤n:=by omega
  have i3:(0:Int)≤(k:Int)+1:=by omega
  have i4:(n:Int)≤c:=by omega
  have ew:IntKind.i64.wrap ((k:Int)+1)=(k:Int)+1:=aak _ (by omega);clear hx hid hno hcell e0 e1 e2 e3 e4 e5 e6 hA Tz hD9 HRW hbS;obtain⟨bd,hbd⟩:∃bd,bd=decide (0<(iX x.t now).length):=⟨_,rfl⟩;rw[←hbd]at RB;have HBE:=acA hbd;clear hbd;cases bd with
  |true=>
   go_wp2_with fail;refine RB.o.mono ?_;rintro e w2 ⟨rfl,hb2⟩;have HB2:=acA hb2;clear hb2;go_wp2_with fail;go_ret;have hB:=HB1.o.trans (HB2.o.mono HB1.o.size);exact⟨28,S,o,rfl,.inr ⟨k,x,Zg.o.1,Zg.o.2.1,Zg.o.2.2,.inl ⟨HBE.o.symm,rfl,rfl⟩⟩,Step.grow HM.o hB,HS.o.grow HM.o hB⟩
  |false=>
   go_wp2_with fail;refine RB.o.mono ?_;rintro e w2 ⟨rfl,hb2⟩;have HB2:=acA (HB1.o.trans (hb2.mono HB1.o.size));have hs2:=hb2.size;have hs1:=HB1.o.size;have HK:acB (∀w',Below w.heap.size w w'→w'.cell? ⟨s,0,none⟩=some (.slice (some ⟨g,off,none⟩) n c)∧w'.frozen? ⟨s,0,none⟩=false):=fun w' hb=>by
    have:=(hb.block s h3).trans HH.o;rw[HN.o];refine⟨?_,?_⟩<;>simp[World.cell?,World.frozen?,this]
   clear c0 d2 hb2;go_wp2_with fail;refine qA 18 ((fun w'=>w'.cell? ⟨s,0,none⟩=some (.slice (some ⟨g,off,none⟩) n c)∧w'.frozen? ⟨s,0,none⟩=false)) ?_ fun hS=> ?_
   ·exact HK.o _ (HB2.o.trans acD.drew)
   refine au 0 hS ?_;refine au 1 hS ?_;refine au 2 hS ?_;refine au 3 hS ?_;refine au 4 hS ?_;refine au 5 hS ?_;refine au 6 hS ?_;refine au 7 hS ?_;refine au 8 hS ?_;refine au 9 hS ?_;refine au 10 hS ?_;refine au 11 hS ?_;refine au 12 hS ?_;refine au 13 hS ?_;obtain⟨A2,hA2⟩:∃A2:Option Addr,A2=if c=k+1 then some ⟨g,off,none⟩else some ⟨g,off+(k+1)*3,none⟩:=⟨_,rfl⟩;rw[←hA2];have HA2:=acA hA2;clear hA2;refine bB 14 fun K hK=> ?_;go_simp;have Ae:Below w2.heap.size w2 (w2.alloc (.cells #[.slice (some ⟨g,off,none⟩) k c,.slice A2 (n-(k+1)) (c-(k+1))] 107)).drew:=(wall w2 _).trans acD.drew;have hBW:Below w.heap.size w (w2.alloc (.cells #[.slice (some ⟨g,off,none⟩) k c,.slice A2 (n-(k+1)) (c-(k+1))] 107)).drew:=HB2.o.trans (Ae.mono HB2.o.size);have G7:=acA hBW;obtain⟨hC0,Zn,Uf⟩:=P9 w2 (.slice (some ⟨g,off,none⟩) k c) (.slice A2 (n-(k+1)) (c-(k+1))) 107;have hRR:=(FT (c:=c) HRX.o hkn hBW).resolve_right (by omega);rw[←HA2.o]at hRR;have hv1:=xI.o.one;have hvl:=xI.o.len;have hfl:([vals.take (k*3),vals.drop ((k+1)*3)].flatten).length=(k+(n-(k+1)))*3:=by
    rw[←HN.o]at hvl;simp[hvl];omega
   have Ez:=acA (J3 (w2.heap.size) 2 (k+(n-(k+1))) [vals.take (k*3),vals.drop ((k+1)*3)] _ rfl (by omega) Uf hfl (by omega) (fun j hj=>by
    rcases j with _|_|j
    ·exact⟨_,_,_,_,hC0,hRR.1,rfl,fun u hu=>hv1 u (List.mem_of_mem_take hu)⟩
    ·exact⟨_,_,_,_,Zn,hRR.2,rfl,fun u hu=>hv1 u (List.mem_of_mem_drop hu)⟩
    ·omega))
   have J4:=acA Ae;clear Ae hC0 Zn hRR hv1 hvl hfl Uf;refine bK hK (HK.o _ hBW) fun hS=> ?_;clear hK K;clear hBW;refine bB 15 fun K hK=> ?_;go_simp;refine Ez.o.mono ?_;rintro e w3 ⟨v8,rfl,hown,hb3⟩;have HB3:=acA (G7.o.trans (hb3.mono G7.o.size));have HOWN:=acA hown;obtain⟨a8,c8,rfl,-⟩:=dI hown;clear hown hb3;go_wp2_with fail;refine bK hK (HK.o _ HB3.o) fun hS=> ?_;clear hK K;refine au 16 hS ?_;refine au 17 hS ?_;refine bB 18 fun K hK=> ?_;go_simp;refine kX hK ?_;clear hS hK K;go_wp2_with fail;go_ret;have hlen:(S.l.take k++S.l.drop (k+1)).length=k+(n-(k+1)):=by
    have:=HN.o;rw[List.length_append,aan,aaM];omega
   have hown:=HOWN.o;rw[←hlen]at hown;have hfe:[vals.take (k*3),vals.drop ((k+1)*3)].flatten=vals.take (k*3)++vals.drop ((k+1)*3):=by simp
   rw[hfe]at hown;obtain⟨o',hs,hSn⟩:=Mh (k:=k) HM.o hi HH.o Xq.o h3 xI.o Ma.o Xy.o HB3.o hown G7.o.size;rw[hlen]at hs hSn;exact⟨0,_,o',rfl,.inr ⟨k,x,Zg.o.1,Zg.o.2.1,Zg.o.2.2,.inr ⟨HBE.o.symm,rfl,rfl⟩⟩,hs,hSn⟩
end
def zq(x:jD):List (List UInt8):=
 if x.kind=7∨x.kind=10 then[x.path,x.dD]else
 if x.kind=1∨x.kind=2∨x.kind=3∨x.kind=8∨x.kind=9∨x.kind=11∨x.kind=12∨x.kind=13 then[x.path]else[]
def fK:List (List UInt8)→List (List Nm)×Int
 |[]=>([],0)
 |a::r=>if (aC a).2≠0 then([],(aC a).2)else if (fK r).2≠0 then([],(fK r).2)else((aC a).1::(fK r).1,0)
def eO(x:jD):List (List Nm)×Int:=if 1≤x.kind∧x.kind≤17 then fK (zq x)else([],30)
def iH(S:rE)(id now:Int):Int×rE:=match S.l.findIdx? (fun x=>decide (x.id=id))with
 |none=>(29,S)
 |some k=>match S.l[k]? with
  |none=>(29,S)
  |some x=>if Aq x.t now=true then(28,S)else(0,EP S k)
def oW(now tick:Int):Int:=if tick≤1099511627776 then(if now≤tick then tick else now)else now
def r_(q:Int×dS):rZ×dS:=(bR q.1,q.2)
def dS.tr(M:dS)(T:aL):dS:={M with t:=T}
def dS.sn(M:dS)(S:rE):dS:={M with s:=S}
def gH(M:dS)(x:jD)(p q:List Nm):rZ×dS:=
 if x.kind=1 then jP M p else
 if x.kind=2 then(bR (b_ M.t p 2).1.2,M.tr (b_ M.t p 2).2)else
 if x.kind=3 then jq M p x.snap else
 if x.kind=4 then(pQ M x,M)else
 if x.kind=5 then jA M x else
 if x.kind=6 then r_ (jB M x)else
 if x.kind=7 then(bR (fM M.t p q).1,M.tr (fM M.t p q).2)else
 if x.kind=8 then r_ (gG M p)else
 if x.kind=9 then(bR (dP M.t p).1,M.tr (dP M.t p).2)else
 if x.kind=10 then(bR (bf M.t p q).1,M.tr (bf M.t p q).2)else
 if x.kind=11∨x.kind=12 then(oq M x p,M)else
 if x.kind=13 then r_ (kS M p x.aA)else
 if x.kind=14 then(⟨(gX M.s M.t).1.2,(gX M.s M.t).1.1,[],[],none⟩,M.sn (gX M.s M.t).2)else
 if x.kind=15 then(bR (iH M.s x.snap M.now).1,M.sn (iH M.s x.snap M.now).2)else
 if x.kind=16 then(bR 0,{M with now:=oW M.now x.aA})else(bR 0,M)
def dH(M:dS)(x:jD):rZ×dS:=
 if (eO x).2≠0 then(bR (eO x).2,M)else gH M x ((eO x).1.getD 0 []) ((eO x).1.getD 1 [])
theorem Cm.eq{S S':rE}{id now er:Int}(h:Cm S id now er S'):iH S id now=(er,S'):=by
 unfold iH;rcases h with⟨rfl,rfl,hno⟩|⟨k,x,hx,hid,hno,h⟩
 ·have:S'.l.findIdx? (fun x=>decide (x.id=id))=none:=by
   rw[abf];intro x hx;simpa using hno x hx
  rw[this]
 ·have:S.l.findIdx? (fun x=>decide (x.id=id))=some k:=by
   obtain⟨hk,e⟩:=aae.1 hx;rw[aa5];refine⟨hk,by rw[e];simpa using hid,fun j hj=> ?_⟩;have hm:S.l[j]'(by omega)∈S.l.take k:=by
    rw[List.mem_take_iff_getElem];exact⟨j,by omega,rfl⟩
   simpa using hno _ hm
  rw[this];dsimp only;rw[hx];dsimp only;rcases h with⟨h1,rfl,rfl⟩|⟨h1,rfl,rfl⟩
  ·rw[if_pos h1]
  ·rw[if_neg (by rw[h1];simp)]
def FdOk(f:EL):Prop:=0≤f.id∧f.id≤65535∧f.b.length≤4096
structure ER(S:rE):Prop where
 few:S.l.length≤8
 last:S.last.length≤64
 each:∀x∈S.l,jm x.t
structure gK(c:Int)(M:dS):Prop where
 t:jm M.t
 s:ER M.s
 next:0≤M.s.next∧M.s.next≤c
 now:0≤M.now∧M.now≤1099511627776
 fd:∀n f,M.fds n=some f→FdOk f
theorem gK.mono{c d:Int}{M:dS}(h:gK c M)(hcd:c≤d):gK d M:=⟨h.t,h.s,⟨h.next.1,by have:=h.next.2;omega⟩,h.now,h.fd⟩
theorem gK.new:gK 1 sQ:=⟨jm.new,⟨by decide,by decide,fun x hx=>by cases hx⟩,⟨by decide,by decide⟩,⟨by decide,by decide⟩,fun n f h=>by cases h⟩
theorem gK.tr{c:Int}{M:dS}(h:gK c M){T:aL}(hT:jm T):gK c (M.tr T):=⟨hT,h.s,h.next,h.now,h.fd⟩
theorem gK.put{c:Int}{M:dS}(h:gK c M)(n:Nat)(f:Option EL)(hf:∀g,f=some g→FdOk g):gK c (M.put n f):=
 ⟨h.t,h.s,h.next,h.now,fun m g hg=>by
  have hg:(if m=n then f else M.fds m)=some g:=hg;by_cases hm:m=n
  ·rw[if_pos hm]at hg;exact hf g hg
  ·rw[if_neg hm]at hg;exact h.fd m g hg⟩
theorem N8(bs:List UInt8):(nM bs).length≤64:=by rw[JK];omega
theorem ER.take{S:rE}(h:ER S){T:aL}(hT:jm T):ER (gX S T).2:=by
 unfold gX;by_cases h8:8≤S.l.length
 ·rw[if_pos h8];exact h
 ·rw[if_neg h8];refine⟨by simp;omega,N8 _,fun x hx=> ?_⟩;rcases aaL.1 hx with hx|hx
  ·exact h.each x hx
  ·rw[List.mem_singleton.1 hx];exact hT.bL
theorem Mj(S:rE)(T:aL):(gX S T).2.next=S.next∨(gX S T).2.next=S.next+1:=by
 unfold gX;split
 ·exact .inl rfl
 ·exact .inr rfl
theorem ER.cut{S:rE}(h:ER S)(k:Nat):ER (EP S k):=by
 refine⟨?_,h.last,fun x hx=> ?_⟩
 ·have:=h.few;show(S.l.take k++S.l.drop (k+1)).length≤8;rw[List.length_append,aan,aaM];omega
 ·rcases aaL.1 (show x∈S.l.take k++S.l.drop (k+1)from hx)with hx|hx
  ·exact h.each x (List.mem_of_mem_take hx)
  ·exact h.each x (List.mem_of_mem_drop hx)
theorem DI(S:rE)(id now:Int):(iH S id now).2=S∨∃k,(iH S id now).2=EP S k:=by
 unfold iH;split
 ·exact .inl rfl
 ·split
  ·exact .inl rfl
  ·split
   ·exact .inl rfl
   ·exact .inr ⟨_,rfl⟩
theorem ER.forget{S:rE}(h:ER S)(id now:Int):ER (iH S id now).2∧(iH S id now).2.next=S.next:=by
 rcases DI S id now with h1|⟨k,h1⟩
 ·rw[h1];exact⟨h,rfl⟩
 ·rw[h1];exact⟨h.cut k,rfl⟩
theorem Ug{now tick:Int}(h:0≤now∧now≤1099511627776):0≤oW now tick∧oW now tick≤1099511627776:=by
 unfold oW;split
 ·split
  ·omega
  ·omega
 ·omega
theorem Ml{T:aL}(hT:dG T)(ls:List Nm)(kind:Int):0≤(b_ T ls kind).1.1∧(b_ T ls kind).1.1≤65535:=by
 unfold b_;split
 ·obtain⟨f,h1,h2,h3,_⟩:=hT.free;have:=hT.len;dsimp only;rw[h1];omega
 ·simp
theorem gK.G8{c:Int}{M:dS}(h:gK c M){id:Int}{T:aL}(hT:jc M id=some T):jm T:=by
 unfold jc at hT;split at hT
 ·cases hT;exact h.t
 ·cases hf:Bn M.s id with
  |none=>rw[hf]at hT;cases hT
  |some y=>
   rw[hf]at hT;cases hT;exact h.s.each y (acr hf)
theorem Xz{T:aL}(hT:dG T)(id a n:Int):(jZ T id a n).length≤4096:=by
 unfold jZ;split
 ·simp
 ·rename_i x hx;split
  ·simp
  ·have:=(hT.each id x hx).size;unfold kU;split
   ·simp
   ·rw[aan,aaM];omega
theorem gK.create{c:Int}{M:dS}(h:gK c M)(ls:List Nm):gK c (jP M ls).2:=by
 unfold jP;split
 ·exact h
 ·split
  ·exact h.tr (h.t.b_ ls 1)
  ·refine(h.tr (h.t.b_ ls 1)).put _ _ fun g hg=> ?_;cases hg;have:=Ml h.t.1 ls 1;exact⟨this.1,this.2,by simp⟩
theorem gK.open{c:Int}{M:dS}(h:gK c M)(ls:List Nm)(id:Int):gK c (jq M ls id).2:=by
 unfold jq;split
 ·exact h
 ·rename_i T hT;split
  ·exact h
  ·unfold Du;split
   ·exact h
   ·split
    ·exact h
    ·split
     ·exact h
     ·split
      ·exact h
      ·refine h.put _ _ fun g hg=> ?_;cases hg;exact⟨by simp,by simp,Xz (h.G8 hT).1 _ _ _⟩
theorem gK.write{c:Int}{M:dS}(h:gK c M)(x:jD):gK c (jA M x).2:=by
 unfold jA;split
 ·exact h
 ·split
  ·exact h
  ·exact h.tr (h.t.dw _ _)
theorem gK.close{c:Int}{M:dS}(h:gK c M)(x:jD)(hx:lY x):gK c (jB M x).2:=by
 unfold jB;split
 ·split
  ·exact h.tr (h.t.eF _ _ hx.wt.1)
  ·exact(h.tr (h.t.eF _ _ hx.wt.1)).put _ _ fun g hg=>by cases hg
 ·split
  ·exact h
  ·exact h.put _ _ fun g hg=>by cases hg
theorem gK.unlink{c:Int}{M:dS}(h:gK c M)(ls:List Nm):gK c (gG M ls).2:=by
 unfold gG;split
 ·exact h
 ·split
  ·exact h
  ·exact h.tr (h.t.bC ls)
theorem gK.keep{c:Int}{M:dS}(h:gK c M)(ls:List Nm)(aA:Int)(ht:0≤aA):gK c (kS M ls aA).2:=by
 unfold kS;split
 ·exact h
 ·split
  ·exact h
  ·exact h.tr (h.t.eX _ _ ht)
theorem gK.do_{c:Int}{M:dS}(h:gK c M)(x:jD)(hx:lY x):gK (c+1) (dH M x).2:=by
 have h':=h.mono (show c≤c+1 by omega);unfold dH;by_cases h0:(eO x).2≠0
 ·rw[if_pos h0];exact h'
 ·rw[if_neg h0];unfold gH;by_cases h1:x.kind=1
  ·rw[if_pos h1];exact h'.create _
  rw[if_neg h1];by_cases h2:x.kind=2
  ·rw[if_pos h2];exact h'.tr (h.t.b_ _ _)
  rw[if_neg h2];by_cases h3:x.kind=3
  ·rw[if_pos h3];exact h'.open _ _
  rw[if_neg h3];by_cases h4:x.kind=4
  ·rw[if_pos h4];exact h'
  rw[if_neg h4];by_cases h5:x.kind=5
  ·rw[if_pos h5];exact h'.write _
  rw[if_neg h5];by_cases h6:x.kind=6
  ·rw[if_pos h6];exact h'.close _ hx
  rw[if_neg h6];by_cases h7:x.kind=7
  ·rw[if_pos h7];exact h'.tr (h.t.fM _ _)
  rw[if_neg h7];by_cases h8:x.kind=8
  ·rw[if_pos h8];exact h'.unlink _
  rw[if_neg h8];by_cases h9:x.kind=9
  ·rw[if_pos h9];exact h'.tr (h.t.dP _)
  rw[if_neg h9];by_cases h10:x.kind=10
  ·rw[if_pos h10];exact h'.tr (h.t.bf _ _)
  rw[if_neg h10];by_cases h11:x.kind=11∨x.kind=12
  ·rw[if_pos h11];exact h'
  rw[if_neg h11];by_cases h13:x.kind=13
  ·rw[if_pos h13];exact h'.keep _ _ hx.wt.1
  rw[if_neg h13];by_cases h14:x.kind=14
  ·rw[if_pos h14];refine⟨h.t,h.s.take h.t,?_,h.now,h.fd⟩;have:=h.next;rcases Mj M.s M.t with e|e
   ·show 0≤(gX M.s M.t).2.next∧(gX M.s M.t).2.next≤c+1
    omega
   ·show 0≤(gX M.s M.t).2.next∧(gX M.s M.t).2.next≤c+1
    omega
  rw[if_neg h14];by_cases h15:x.kind=15
  ·rw[if_pos h15];obtain⟨k1,k2⟩:=h.s.forget x.snap M.now;refine⟨h.t,k1,?_,h.now,h.fd⟩;have:=h'.next;show 0≤(iH M.s x.snap M.now).2.next∧(iH M.s x.snap M.now).2.next≤c+1
   rw[k2];exact this
  rw[if_neg h15];by_cases h16:x.kind=16
  ·rw[if_pos h16];exact⟨h.t,h.s,h'.next,Ug h.now,h.fd⟩
  rw[if_neg h16];exact h'
def N9(S:Nat→Prop)(w:World)(u:Value)(q:List Nm):Prop:=∃a c,u= .slice a q.length c∧q.length≤c∧aK S w a q.length (q.map strOf)
def pR(S:Nat→Prop)(w:World)(vals:List Value)(l:List (List Nm)):Prop:=vals.length=l.length∧∀(i:Nat) (q:List Nm),l[i]? =some q→∃u,vals[i]? =some u∧N9 S w u q
theorem N9.move{S S':Nat→Prop}{w w':World}{u:Value}{q:List Nm}(h:N9 S w u q)(hs:w.heap.size≤w'.heap.size)(hk:∀b,S b→b<w.heap.size→S' b∧w'.heap[b]? =w.heap[b]?):N9 S' w' u q:=by
 obtain⟨a,c,h1,h2,h3⟩:=h;exact⟨a,c,h1,h2,h3.row.move hs hk,h3.short⟩
theorem pR.move{S S':Nat→Prop}{w w':World}{vals:List Value}{l:List (List Nm)}(h:pR S w vals l)(hs:w.heap.size≤w'.heap.size)(hk:∀b,S b→b<w.heap.size→S' b∧w'.heap[b]? =w.heap[b]?):pR S' w' vals l:=
 ⟨h.1,fun i q hq=>by
  obtain⟨u,h1,h2⟩:=h.2 i q hq;exact⟨u,h1,h2.move hs hk⟩⟩
theorem pR.append{S:Nat→Prop}{w:World}{v1 v2:List Value}{l1 l2:List (List Nm)}(h:pR S w v1 l1)(k:pR S w v2 l2):pR S w (v1++v2) (l1++l2):=by
 refine⟨by rw[List.length_append,List.length_append,h.1,k.1],fun i q hq=> ?_⟩;by_cases hi:i<l1.length
 ·rw[aaG hi]at hq;rw[aaG (by rw[h.1];exact hi)];exact h.2 i q hq
 ·rw[aaz (by omega)]at hq;rw[aaz (by rw[h.1];omega),h.1];exact k.2 _ q hq
def zu(B:Nat)(w:World)(v:Value)(m:Nat)(xs:List Value)(L:List (List Nm))(v':Value)(w':World):Prop:=
 ∃vals l,l.Perm L∧w'.ownsRow B 26 1 v' (m+l.length) (xs++vals)∧pR (fun b=>w.heap.size≤b∧b<w'.heap.size∧v'.ownBlock≠some b) w' vals l∧Keeps (fun b=>v.ownBlock=some b) w w'∧∀b,v'.ownBlock=some b→v.ownBlock=some b∨w.heap.size≤b
theorem zu.trans{B:Nat}{w w1 w2:World}{v v1 v2:Value}{m:Nat}{xs:List Value}{L1 L2:List (List Nm)}(h:zu B w v m xs L1 v1 w1)(k:∀m1 xs1,w1.ownsRow B 26 1 v1 m1 xs1→zu B w1 v1 m1 xs1 L2 v2 w2):zu B w v m xs (L1++L2) v2 w2:=by
 obtain⟨vals,l,hp,ho,hv,hK,hb⟩:=h;obtain⟨vals2,l2,hp2,ho2,hv2,hK2,hb2⟩:=k _ _ ho;have hs1:=hK.size;have hs2:=hK2.size;refine⟨vals++vals2,l++l2,hp.append hp2,by rw[List.length_append,←Nat.add_assoc,←aau];exact ho2,?_,hK.trans hK2 fun x hx hx1=> ?_,fun b hb'=> ?_⟩
 ·refine(hv.move (by omega) fun b hS hbw=>⟨⟨hS.1,by omega,fun he=> ?_⟩,hK2.block b hbw fun he=>hS.2.2 he⟩).append (hv2.move acC fun b hS hbw=>⟨⟨by omega,hS.2.1,hS.2.2⟩,rfl⟩);rcases hb2 b he with h1|h1
  ·exact hS.2.2 h1
  ·omega
 ·rcases hb x hx1 with h1|h1
  ·exact h1
  ·omega
 ·rcases hb2 b hb' with h1|h1
  ·exact hb b h1
  ·exact .inr (by omega)
def bmk(l:List UInt8):ByteArray:=⟨l.toArray⟩
theorem Uh(l:List UInt8):(bmk l).size=l.length:=by simp[bmk,ByteArray.size]
def Small(q:List Nm):Prop:=q.length≤64∧∀n∈q,n.length≤16
theorem N_(ss:List ByteArray):(BK ss).length=ss.length:=by simp[BK]
theorem Ui{w:World}{e:TypeId}{ss:List ByteArray}{n:Nat}(hn:ss.length=n)(hm:n≤maxLen)(hs:∀s∈ss,s.size≤maxLen):aK (xB w.heap.size) (w.alloc (.cells (ss.map Value.string).toArray e)) (some ⟨w.heap.size,0,none⟩) n ss:=by
 refine⟨⟨by simpa using hn,hm,fun _=>⟨w.heap.size,0,rfl,Nat.le_refl _,by simp,fun i hi=> ?_⟩⟩,hs⟩;have hh:(w.alloc (.cells (ss.map Value.string).toArray e)).heap[w.heap.size]? =some (.cells (ss.map Value.string).toArray e):=(MapKept.heap_alloc w _).1;simp only[World.cell?,hh,Nat.zero_add];simp
theorem XA(ss:List ByteArray):ss.any CG=(BK ss).any (fun x=> !dO x):=by
 unfold BK;rw[List.any_map];rfl
theorem Uj(ss:List ByteArray):AY ss=bg (BK ss):=by
 unfold AY bg;rw[XA,N_]
def DJ(w:World)(l:List UInt8)(e:Ending)(w':World):Prop:=
 ∃a len cap ss,e= .returned (.tuple #[.slice a len cap,.int .i64 (aC l).2])∧len≤cap∧BK ss=(aC l).1∧aK (xB w.heap.size) w' a len ss∧Below w.heap.size w w'
theorem FU(s:ByteArray)(w:World)(hs:s.size<4294967281)(m:Int)(hm:w.cell? ⟨0,0,none⟩=some (.int .i64 m)):
  Calls Tryz.prog 137 #[.string s] w (DJ w s.data.toList):=by
 obtain⟨l,hl⟩:∃l,s.data.toList=l:=⟨_,rfl⟩;rw[hl];have hsl:s.size=l.length:=by rw[←hl];simp
 have HC:=Tryz.strings_CutPrefix s ⟨#[47]⟩;rw[hl]at HC;have ways:(Lib.hasPrefix l [47]=false∧aC l=([],12))∨(l=[47]∧aC l=([],0))∨(∃r,r≠[]∧l=47::r∧aC l=if bg (bM r)=0 then(bM r,0)else([],bg (bM r))):=by
  cases l with
  |nil=>exact Or.inl ⟨rfl,rfl⟩
  |cons c r=>
   by_cases h:c=47
   ·subst h;by_cases hr:r=[]
    ·subst hr;exact Or.inr (Or.inl ⟨rfl,rfl⟩)
    ·exact Or.inr (Or.inr ⟨r,hr,rfl,by simp[aC,hr]⟩)
   ·refine Or.inl ⟨?_,by simp[aC,h]⟩;simp[Lib.hasPrefix,List.isPrefixOf];exact fun e=>h e.symm
 clear hl;rcases ways with⟨h1,h2⟩|⟨h1,h2⟩|⟨r,h1,h2,h3⟩
 ·have HP:=acA h2;rw[h1]at HC;clear h1 h2 hsl;go_enter Tryz.func137,Tryz.ntmps137;go_wp2_with fail;refine(HC _).mono ?_;rintro e w1 ⟨rfl,rfl⟩;clear HC;go_wp2_with fail
  go_ret2
  exact⟨none,0,0,[],by rw[HP.o];rfl,by simp,by rw[HP.o];rfl,⟨ah.nil _ _ _,by simp⟩,Below.refl _ _⟩
 ·have HP:=acA h2;subst h1;clear h2 hsl;rw[show Lib.trimPrefix [47] [47]=[]from rfl,show Lib.hasPrefix [47] [47]=true from rfl]at HC;go_enter Tryz.func137,Tryz.ntmps137;go_wp2_with fail;refine(HC _).mono ?_;rintro e w1 ⟨rfl,rfl⟩;clear HC;go_wp2_with fail
  go_ret2
  exact⟨none,0,0,[],by rw[HP.o];rfl,by simp,by rw[HP.o];rfl,⟨ah.nil _ _ _,by simp⟩,Below.refl _ _⟩
 ·subst h2;have HP:=acA h3;clear h3;have e1:Lib.trimPrefix (47::r) [47]=r:=by simp[Lib.trimPrefix,Lib.hasPrefix,List.isPrefixOf]
  have e2:Lib.hasPrefix (47::r) [47]=true:=by simp[Lib.hasPrefix,List.isPrefixOf]
  rw[show(⟨#[47]⟩:ByteArray).data.toList=[47]from rfl,e1,e2]at HC;clear e1 e2;obtain⟨t,ht⟩:∃t,t=bmk r:=⟨_,rfl⟩;have ht':(⟨r.toArray⟩:ByteArray)=t:=ht.symm;rw[ht']at HC;have htl:t.data.toList=r:=by rw[ht];rfl
  have hts:t.size=r.length:=by rw[ht,Uh]
  have hte:=abm t;rw[htl]at hte;have ht1:¬t.toList=[]:=by rw[hte];exact h1
  have ht2:t.toList.isEmpty=false:=by rw[hte];simpa using h1
  have hsz:t.size<4294967281:=by rw[hts];simp at hsl;omega
  clear ht ht' hte;obtain⟨hB,hcn⟩:=IZ t;rw[htl]at hB hcn;have hlen:(Lib.splitB ⟨#[47]⟩ 0 (Lib.countB t ⟨#[47]⟩) t).length=Lib.countB t ⟨#[47]⟩+1:=by
   have:=aaT List.length hB;rw[List.length_map,ED]at this;omega
  have hcl:Lib.countB t ⟨#[47]⟩+1≤r.length+1:=by rw[hcn];have:=List.count_le_length (a:=(47:UInt8)) (l:=r);omega
  have hshort:∀x∈Lib.splitB ⟨#[47]⟩ 0 (Lib.countB t ⟨#[47]⟩) t,x.size≤maxLen:=by
   intro x hx;have h5:x.data.toList∈bM r:=by rw[←hB];exact List.mem_map.2 ⟨x,hx,rfl⟩
   have:=OH r _ h5;have h6:x.data.toList.length=x.size:=by simp
   unfold maxLen;omega
  obtain⟨ss,hss⟩:∃ss,ss=Lib.splitB ⟨#[47]⟩ 0 (Lib.countB t ⟨#[47]⟩) t:=⟨_,rfl⟩;have HS:=Tryz.strings_Split t ⟨#[47]⟩ m w hsz hm (by decide);obtain⟨n,hn⟩:∃n,n=Lib.countB t ⟨#[47]⟩+1:=⟨_,rfl⟩;rw[←hss,←hn]at HS;rw[←hss]at hB hlen hshort;rw[←hn]at hlen hcl;have hnm:n≤maxLen:=by unfold maxLen;omega
  have HSt:=Ui (w:=w) (e:=9) hlen hnm hshort;have HF:=IY (S:=xB w.heap.size) (some ⟨w.heap.size,0,none⟩) n n ss _ HSt;rw[Uj,show BK ss=bM r from hB]at HF;have HB:=acA hB;clear hB hlen hshort hss hn hcn hcl hnm htl hts hsl;cases hf:(bg (bM r) !=0)
  ·have hf0:bg (bM r)=0:=by simpa using hf
   have Z9:=acA hf0;clear hf0;go_enter Tryz.func137,Tryz.ntmps137;go_wp2_with fail;refine(HC _).mono ?_;rintro e w1 ⟨rfl,rfl⟩;clear HC;go_wp2_with fail;refine HS.mono ?_;rintro e w1 ⟨rfl,rfl⟩;go_wp2_with fail;refine HF.mono ?_;rintro e w1 ⟨rfl,hb⟩;go_wp2_with fail
   go_ret2
   refine⟨_,n,n,ss,by rw[HP.o,if_pos Z9.o];rfl,Nat.le_refl _,by rw[HP.o,if_pos Z9.o];exact HB.o,HSt.below hb (by simp),(acD.alloc acC _).trans (hb.mono (by simp))⟩
  ·have hf0:bg (bM r)≠0:=by simpa using hf
   have Z9:=acA hf0;clear hf0;go_enter Tryz.func137,Tryz.ntmps137;go_wp2_with fail;refine(HC _).mono ?_;rintro e w1 ⟨rfl,rfl⟩;clear HC;go_wp2_with fail;refine HS.mono ?_;rintro e w1 ⟨rfl,rfl⟩;go_wp2_with fail;refine HF.mono ?_;rintro e w1 ⟨rfl,hb⟩;go_wp2_with fail
   go_ret2
   refine⟨none,0,0,[],by rw[HP.o,if_neg Z9.o];rfl,by simp,by rw[HP.o,if_neg Z9.o];rfl,⟨ah.nil _ _ _,by simp⟩,(acD.alloc acC _).trans (hb.mono (by simp))⟩
theorem qP:∀(ts:List (List UInt8)),(∀t∈ts,(aC t).2=0)→fK ts=(ts.map fun t=>(aC t).1,0)
 |[],_=>rfl
 |t::r,h=>by
  have h1:=h t (by simp);have h2:=qP r fun x hx=>h x (by simp[hx]);unfold fK;rw[if_neg (by rw[h1];simp),h2,if_neg (by simp)];rfl
theorem kF:∀(ts:List (List UInt8)) (k:Nat) (t:List UInt8),ts[k]? =some t→(∀x∈ts.take k,(aC x).2=0)→(aC t).2≠0→fK ts=([],(aC t).2)
 |[],k,t,h,_,_=>by simp at h
 |a::r,0,t,h,_,h2=>by
  have h:a=t:=by simpa using h
  subst h;unfold fK;rw[if_pos h2]
 |a::r,k+1,t,h,h1,h2=>by
  have h3:=kF r k t (by simpa using h) (fun x hx=>h1 x (by rw[abo];simp[hx])) h2;unfold fK;rw[if_neg (by rw[h1 a (by rw[abo];simp)];simp),h3,if_pos h2]
theorem Oa(ss:List ByteArray):(BK ss).map strOf=ss:=by
 unfold BK;rw[List.map_map];have:(strOf∘fun s:ByteArray=>s.data.toList)=id:=by
  funext s;show strOf s.data.toList=s;cases s;rfl
 rw[this,List.map_id]
def fV(w:World)(ps:List (List Nm)×Int)(e:Ending)(w':World):Prop:=
 ∃a n c vs,e= .returned (.tuple #[.slice a n c,.int .i64 ps.2])∧n=ps.1.length∧n≤c∧ah (fun b=>w.heap.size≤b∧b<w'.heap.size) w' a n vs∧pR (fun b=>w.heap.size≤b∧b<w'.heap.size) w' vs ps.1∧Below w.heap.size w w'
def gJ(w:World)(ts:List (List UInt8))(k:Nat)(v:Value)(wr:World):Prop:=
 ∃vals,wr.ownsRow w.heap.size 26 1 v k vals∧pR (fun b=>w.heap.size≤b∧b<wr.heap.size∧v.ownBlock≠some b) wr vals ((ts.take k).map fun t=>(aC t).1)∧Below w.heap.size w wr∧∀t∈ts.take k,(aC t).2=0
theorem gJ.start{w wr:World}(ts:List (List UInt8))(hb:Below w.heap.size w wr):gJ w ts 0 (.slice none 0 0) wr:=
 ⟨[],⟨rfl,.inl ⟨rfl,rfl⟩⟩,⟨rfl,fun i q hq=>by simp at hq⟩,hb,fun t ht=>by simp at ht⟩
theorem gJ.one{w:World}{ts:List (List UInt8)}{k:Nat}{v:Value}{wr:World}(h:gJ w ts k v wr):∃a c vals,v= .slice a k c∧k≤c∧wr.ownsRow w.heap.size 26 1 v k vals:=by
 obtain⟨vals,h1,h2⟩:=h;obtain⟨a,c,h3,h4⟩:=dI h1;exact⟨a,c,vals,h3,h4,h1⟩
theorem gJ.next{w w2 w3 w4:World}{ts:List (List UInt8)}{k:Nat}{v v':Value}{wr:World}{t:List UInt8}{a:Option Addr}{len cap:Nat}{ss:List ByteArray}{vals:List Value}
  (h1:wr.ownsRow w.heap.size 26 1 v k vals)(h2:pR (fun b=>w.heap.size≤b∧b<wr.heap.size∧v.ownBlock≠some b) wr vals ((ts.take k).map fun t=>(aC t).1))(h3:Below w.heap.size w wr)(h4:∀t∈ts.take k,(aC t).2=0)
  (ht:ts[k]? =some t)(h0:(aC t).2=0)(hlc:len≤cap)(hbs:BK ss=(aC t).1)(hS:aK (xB wr.heap.size) w2 a len ss)(hb2:Below wr.heap.size wr w2)(hb3:Below w2.heap.size w2 w3)
  (hown:w4.ownsRow w.heap.size 26 1 v' (k+1) (vals++[.slice a len cap]))(hg:w3.grownBy w4 v.ownBlock)(hob:v'.ownBlock=v.ownBlock∨v'.ownBlock=some w3.heap.size):gJ w ts (k+1) v' w4:=by
 have hs2:=hb2.size;have hs3:=hb3.size;have hs1:=h3.size;have hs4:=hg.size;have hvo:∀b,v.ownBlock=some b→b<wr.heap.size:=kR h1;have hne:∀b,b<w3.heap.size→v.ownBlock≠some b→v'.ownBlock≠some b:=fun b hb hn=>by
  rcases hob with e|e
  ·rw[e];exact hn
  ·rw[e];simp;omega
 refine⟨_,hown,?_,(h3.trans ((hb2.trans (hb3.mono hs2)).mono hs1)).grown hg (by omega) (bA h1),fun x hx=> ?_⟩
 ·have e:(ts.take (k+1)).map (fun t=>(aC t).1)=(ts.take k).map (fun t=>(aC t).1)++[(aC t).1]:=by
   obtain⟨hk,e⟩:=aae.1 ht;rw[aah hk,List.map_append,e];rfl
  rw[e];refine pR.append (h2.move (by omega) fun b hb hbw=>⟨⟨hb.1,by omega,hne b (by omega) hb.2.2⟩,?_⟩) ⟨rfl,fun i q hq=> ?_⟩
  ·exact((hg.block b (by omega) (fun e=>hb.2.2 e.symm)).trans (hb3.block b (by omega))).trans (hb2.block b hbw)
  ·rcases i with _|i
   ·have hq:(aC t).1=q:=by simpa using hq
    subst hq;refine⟨_,rfl,?_⟩;have hl:=hS.length;have hss:ss=((aC t).1).map strOf:=by rw[←hbs,Oa]
    have hll:len=(aC t).1.length:=by rw[←hl,hss,List.length_map]
    subst hll;rw[hss]at hS;refine⟨a,cap,rfl,hlc,hS.row.move (by omega) fun b hb hbw=> ?_,hS.short⟩;have hb:wr.heap.size≤b:=hb;have hvn:v.ownBlock≠some b:=fun e=>by have:=hvo b e;omega
    exact⟨⟨by omega,by omega,hne b (by omega) hvn⟩,(hg.block b (by omega) (fun e=>hvn e.symm)).trans (hb3.block b hbw)⟩
   ·simp at hq
 ·obtain⟨hk,e⟩:=aae.1 ht;rw[aah hk,e]at hx;rcases aaL.1 hx with hx|hx
  ·exact h4 x hx
  ·rw[List.mem_singleton.1 hx];exact h0
theorem gJ.done{w:World}{ts:List (List UInt8)}{v:Value}{wr:World}(h:gJ w ts ts.length v wr):fV w (fK ts) (.returned (.tuple #[v,.int .i64 0])) wr:=by
 obtain⟨vals,h1,h2,h3,h4⟩:=h;rw[List.take_of_length_le acC]at h2 h4;rw[qP ts h4];obtain⟨a,c,rfl,hc⟩:=dI h1;exact⟨a,ts.length,c,vals,rfl,by simp,hc,(ah.pJ h1).2,h2.move acC fun b hb _=>⟨⟨hb.1,hb.2.1⟩,rfl⟩,h3⟩
theorem fV.up{w w1 wr:World}{ps:List (List Nm)×Int}{e:Ending}(h:fV w1 ps e wr)(hb:Below w.heap.size w w1):fV w ps e wr:=by
 obtain⟨a,n,c,vs,h1,h2,h3,h4,h5,h6⟩:=h;have:=hb.size;exact⟨a,n,c,vs,h1,h2,h3,h4.mono fun b hb'=>⟨by omega,hb'.2⟩,h5.move acC fun b hb' _=>⟨⟨by omega,hb'.2⟩,rfl⟩,hb.trans (h6.mono hb.size)⟩
theorem Ar:(Tryz.prog.info? 26).map (fun i=>(i.zero,i.size,i.bytes))=some (some (.slice none 0 0),1,24):=by kernel_rfl
end Go.Proofs.YtjnhnlabpccgjaaGreatDoor
