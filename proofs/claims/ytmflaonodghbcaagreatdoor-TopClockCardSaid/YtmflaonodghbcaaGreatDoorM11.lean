/- package -/
import Derived.Test.YtmflaonodghbcaaGreatDoorM03
import Derived.Test.YtmflaonodghbcaaGreatDoorM04
import Derived.Test.YtmflaonodghbcaaGreatDoorM10
import Derived.WalkLawsBesides
import Derived.Deep.CutBlock
import Derived.Deep.DeepCutAuto
import Derived.Test.YtmflaonodghbcaaGreatDoorM08
import Derived.Deep.RegionHeld3
set_option maxRecDepth 100000
set_option maxHeartbeats 64000000
set_option linter.all false
namespace Go.Proofs.YtmflaonodghbcaaGreatDoor
open Go.ChangeShapes Go.WideShapes Go.ChangeAt Go.RowKit
def bA(n:Int):Nat→List UInt8
 |0=>[]
 |s+1=>UInt8.ofNat ((n/2^(8*s)).toNat%256)::bA n s
structure bN(B:Nat)(w:World)(x:Nat)(v:Value)(bs:List UInt8):Prop where
 head:w.heap[x]? =some (.cells #[v] 226 (0,0))
 own:w.ownsRow B 5 1 v bs.length (bs.map bv)
 low:B≤x
 apart:v.ownBlock≠some x
def kD(B:Nat)(w:World)(x:Nat)(v:Value)(bs:List UInt8)(v':Value)(w':World):Prop:=
 bN B w' x v' bs∧Keeps (fun b=>b=x∨v.ownBlock=some b) w w'∧∀b,v'.ownBlock=some b→v.ownBlock=some b∨w.heap.size≤b
def oJ(B:Nat)(w:World)(x:Nat)(v:Value)(bs:List UInt8)(e:Ending)(w':World):Prop:=e= .returned (.tuple #[])∧∃v',kD B w x v bs v' w'
section
variable{B x:Nat}{w w1 w2:World}{v v1 v2:Value}{bs bs1 bs2:List UInt8}
theorem bN.lt(h:bN B w x v bs):x<w.heap.size:=(uh.1 h.head).1
theorem bN.cell(h:bN B w x v bs):w.cell? ⟨x,0,none⟩=some v:=by simp[World.cell?,h.head]
theorem bN.frozen(h:bN B w x v bs):w.frozen? ⟨x,0,none⟩=false:=by simp[World.frozen?,h.head]
theorem bN.kept(h:bN B w x v bs)(hs:w.heap.size≤w1.heap.size)(hx:w1.heap[x]? =w.heap[x]?)(hv:∀b,v.ownBlock=some b→w1.heap[b]? =w.heap[b]?):bN B w1 x v bs:=
 ⟨hx.trans h.head,bR h.own fun b hb _=>hv b hb,h.low,h.apart⟩
theorem bN.below(h:bN B w x v bs)(hb:Below w.heap.size w w1):bN B w1 x v bs:=
 h.kept hb.size (hb.block x h.lt) fun b hb'=>hb.block b (jf h.own b hb')
theorem kD.refl(h:bN B w x v bs):kD B w x v bs v w:=⟨h,Keeps.refl _ _,fun b hb=> .inl hb⟩
theorem kD.trans(h:kD B w x v bs1 v1 w1)(k:kD B w1 x v1 bs2 v2 w2):kD B w x v bs2 v2 w2:=by
 obtain⟨h1,h2,h3⟩:=h;obtain⟨k1,k2,k3⟩:=k;have hs:=h2.size;refine⟨k1,h2.trans k2 fun b hb hb1=> ?_,fun b hb=> ?_⟩
 ·rcases hb1 with h4|h4
  ·exact .inl h4
  ·rcases h3 b h4 with h5|h5
   ·exact .inr h5
   ·omega
 ·rcases k3 b hb with h4|h4
  ·exact h3 b h4
  ·exact .inr (by omega)
theorem kD.below(h:kD B w x v bs v1 w1)(hb:Below w1.heap.size w1 w2):kD B w x v bs v1 w2:=by
 obtain⟨h1,h2,h3⟩:=h;exact⟨h1.below hb,h2.trans (Keeps.below hb) (fun b hb' hf=>by have:=h2.size;omega),h3⟩
end
theorem Qn{B x:Nat}{wr wa u1:World}{v1 v2:Value}{bs bs':List UInt8}(h:bN B wr x v1 bs)(ha:Below wr.heap.size wr wa)(hown:u1.ownsRow B 5 1 v2 bs'.length (bs'.map bv))(hg:wa.grownBy u1 v1.ownBlock)(hat:v2.ownBlock=v1.ownBlock∨v2.ownBlock=some wa.heap.size):kD B wr x v1 bs' v2 (u1.setCell ⟨x,0,none⟩ v2):=by
 have hx:=h.lt;have hs1:=ha.size;have hs2:=hg.size;have hxb:u1.heap[x]? =some (.cells #[v1] 226 (0,0)):=(hg.block x (by omega) (fun e=>h.apart e.symm)).trans ((ha.block x hx).trans h.head);have hap:v2.ownBlock≠some x:=by
  rcases hat with h1|h1
  ·rw[h1];exact h.apart
  ·rw[h1];intro e;simp only[aag]at e;omega
 refine⟨⟨?_,bR hown fun b hb hbw=>aL u1 _ _ _ (fun e=>hap (by rw[hb,e])),h.low,hap⟩,⟨hg.os.trans ha.os,hg.tape.trans ha.tape,hg.output.trans ha.output,by rw[size_set];omega,fun b hb hn=> ?_⟩,fun b hb=> ?_⟩
 ·simp only[World.setCell,Array.getElem?_modify,hxb];simp
 ·have h1:b≠x:=fun e=>hn (.inl e);have h2:v1.ownBlock≠some b:=fun e=>hn (.inr e);exact(aL u1 _ _ _ h1).trans ((hg.block b (by omega) (fun e=>h2 e.symm)).trans (ha.block b hb))
 ·rcases hat with h1|h1
  ·exact .inl (h1▸hb)
  ·rw[h1]at hb;cases hb;exact .inr hs1
theorem GK{n:Int}(hn:0≤n)(k:Nat):IntKind.u8.wrap (n/2^(8*(k:Int)).toNat)=((UInt8.ofNat ((n/2^(8*k)).toNat%256)).toNat:Int):=by
 have e1:(8*(k:Int)).toNat=8*k:=by omega
 rw[e1];have h0:0≤n/2^(8*k):=Int.ediv_nonneg hn (Int.pow_nonneg (by decide));generalize n/2^(8*k)=y at h0;have h1:(UInt8.ofNat (y.toNat%256)).toNat=y.toNat%256:=by simp
 rw[h1];simp only[IntKind.wrap,IntKind.bits,IntKind.signed];simp;omega
theorem CQ{B x:Nat}{w:World}{v:Value}{bs:List UInt8}(h:bN B w x v bs)(n:Int)(s:Nat)(hn:0≤n)(hn':n≤18446744073709551615)(hs:s≤8)(hl:bs.length≤100000000):
  Calls Tryz.prog 140 #[ptr x,.int .u64 n,.int .i64 s] w (oJ B w x v (bs++bA n s)):=by
 obtain⟨i8,hi⟩:∃i,Tryz.prog.info? 5=some i∧i.zero=some (.int .u8 0)∧i.size=1∧i.bytes=1:=aay (by kernel_rfl);have HI:=ab9 hi;have HW:=ab9 h;clear h hi;go_enter Tryz.func140,Tryz.ntmps140;go_wp2
 go_loopw [6] (fun kv wr=>∃(k:Nat) (dn:List UInt8) (v1:Value),k≤s∧kv= .int .i64 ((k:Int)-1)∧dn++bA n k=bA n s∧dn.length+k=s∧kD B w x v (bs++dn) v1 wr) (fun kv _=>((intOf kv)+1).toNat)
 case atStart=>exact⟨s,[],v,Nat.le_refl _,by go_num,rfl,by simp,by simpa using kD.refl HW.o⟩
 case round=>
  obtain⟨k,dn,v1,hk,rfl,hdn,hdl,hm⟩:=hrel;have HM:=ab9 hm;have c0:=hm.1.cell;have f0:=hm.1.frozen;clear hm;cases k with
  |zero=>
   have DK:=ab9 hdn;have e0:((0:Nat):Int)-1= -1:=by omega
   rw[e0];clear hdn;go_wp2_with fail
   go_end0
   refine⟨rfl,v1,?_⟩;have h9:=DK.o;unfold bA at h9;rw[aaE]at h9;cases s with
   |zero=>
    have:dn=[]:=Pe (by omega);subst this;exact HM.o
   |succ s=>
    rw[←show dn=bA n (s+1)from by rw[h9];rfl];exact HM.o
  |succ k=>
   have hk0:(0:Int)≤k:=by omega
   have e1:((k+1:Nat):Int)-1=(k:Int):=by omega
   rw[e1];have e2:IntKind.i64.wrap (8*(k:Int))=8*(k:Int):=aah _ (by omega);have hge:decide ((0:Int)≤(k:Int))=true:=by simp
   have hbw:=GK hn k;obtain⟨b0,hb0⟩:∃b0,b0=UInt8.ofNat ((n/2^(8*k)).toNat%256):=⟨_,rfl⟩;rw[←hb0]at hbw;have HB0:=ab9 hb0;have DK:=ab9 hdn;have GL:acd (∀w',Below wr.heap.size wr w'→w'.cell? ⟨x,0,none⟩=some v1∧w'.frozen? ⟨x,0,none⟩=false):=fun w' hb=>⟨(HM.o.1.below hb).cell,(HM.o.1.below hb).frozen⟩;obtain⟨N,hN⟩:∃N,N=(bs++dn).length:=⟨_,rfl⟩;have hN2:N≤100000008:=by rw[hN,List.length_append];omega
   have HOW:acd (wr.ownsRow B 5 1 v1 N ((bs++dn).map bv)):=by rw[hN];exact HM.o.1.own
   have qJ:=ab9 hN;have hBw:B≤wr.heap.size:=Nat.le_of_lt (Nat.lt_of_le_of_lt HM.o.1.low HM.o.1.lt);clear hb0 hdn hN;go_wp2_with fail;refine Cv 14 ((fun w'=>w'.cell? ⟨x,0,none⟩=some v1∧w'.frozen? ⟨x,0,none⟩=false)) ?_ fun hS=> ?_
   ·exact GL.o _ acf.drew
   refine aY 0 hS ?_;refine aY 1 hS ?_;refine aY 2 hS ?_;refine aY 3 hS ?_;refine aY 4 hS ?_;refine aY 5 hS ?_;refine aY 6 hS ?_;refine aY 7 hS ?_;refine aY 8 hS ?_;refine aY 9 hS ?_;refine dW 10 fun K hK=> ?_;go_simp;have F9:Below wr.heap.size wr (wr.drew.alloc (.cells #[bv b0] 5)):=acf.drew.alloc ace _;refine dK hK (GL.o _ F9) fun hS=> ?_;clear hK K;refine dW 11 fun K hK=> ?_;refine Cu (by rfl) (.tmp 17) (.tmp 23) 32 (by rfl) B 5 i8 _ 1 Tryz.underlying32 HI.o.1 HI.o.2.1 HI.o.2.2.1 HI.o.2.2.2 rfl v1 N ((bs++dn).map bv) (by rfl) (bR HOW.o fun b hb hbw=>F9.block b hbw) (some ⟨wr.heap.size,0,none⟩) 1 1 [bv b0] (by rfl) (yQ (w:=wr.drew) (bv b0) 5) (by simp[bv,Value.oneCell']) (by unfold maxLen;omega) (by omega) (by simp;omega) ?_;intro A1 c1 u1 hown1 hg1 _ hat1;have Y5:u1.heap[x]? =some (.cells #[v1] 226 (0,0)):=(hg1.block x (Nat.lt_of_lt_of_le HM.o.1.lt F9.size) (fun e=>HM.o.1.apart e.symm)).trans ((F9.block x HM.o.1.lt).trans HM.o.1.head);have hu:u1.cell? ⟨x,0,none⟩=some v1∧u1.frozen? ⟨x,0,none⟩=false:=⟨by simp[World.cell?,Y5],by simp[World.frozen?,Y5]⟩;refine dK hK (hu) fun hS=> ?_;clear hK K;refine aY 12 hS ?_;refine aY 13 hS ?_;refine dW 14 fun K hK=> ?_;go_simp;refine sN hK ?_;clear hS hK K;go_wp2;go_roundw
   case rel=>
    refine⟨k,dn++[b0],.slice A1 (N+1) c1,by omega,by go_num,?_,by simp;omega,HM.o.trans (Qn HM.o.1 F9 ?_ hg1 hat1)⟩
    ·rw[List.append_assoc,←DK.o,HB0.o];rfl
    ·have h9:(bs++(dn++[b0])).length=N+1:=by rw[qJ.o];simp;omega
     rw[h9];simpa using hown1
   case measure=>simp[intOf]
theorem dU:pK jX:=Kw
theorem mY{T:aI}(hs:aO jX T){d:Int}{x:eG}(f:eG→eG)(hx:aj d T=some x)(k:Int):fF (cu d f T) k+cn k x=fF T k+cn k (f x):=by
 induction T with
 |nil=>cases hx
 |cons y r ih=>
  have hp:=hs.apart dU;obtain⟨h1,h2⟩:=aau.1 hp;rw[fD]at hx;by_cases hy:y.1=d
  ·rw[if_pos hy]at hx;cases hx;have hr:cu d f r=r:=by
    unfold cu
    conv=>rhs;rw[←List.map_id r]
    apply aaw;intro q hq;have:=h1 q hq;rw[if_neg (fun e=>this (hy.trans e.symm))];rfl
   have e:cu d f (y::r)=(y.1,f y.2)::r:=by
    have:cu d f (y::r)=(if y.1=d then(y.1,f y.2)else y)::cu d f r:=rfl;rw[this,hr,if_pos hy]
   rw[e];simp[fF];omega
  ·rw[if_neg hy]at hx;have:=ih (aau.1 hs).2 hx;have e:cu d f (y::r)=y::cu d f r:=by
    have:cu d f (y::r)=(if y.1=d then(y.1,f y.2)else y)::cu d f r:=rfl;rw[this,if_neg hy]
   rw[e];simp[fF]at this⊢;omega
theorem GN(x:Int×eG):∀(T:aI) (k:Int),fF (jq jX x T) k=fF T k+cn k x.2
 |[],k=>by simp[jq,fF]
 |y::r,k=>by
  unfold jq;split
  ·simp[fF];omega
  ·have:=GN x r k;simp[fF]at this⊢;omega
theorem Au{T:aI}(hs:aO jX T){d:Int}{x:eG}(hx:aj d T=some x)(k:Int):fF (bM d T) k+cn k x=fF T k:=by
 induction T with
 |nil=>cases hx
 |cons y r ih=>
  have hp:=hs.apart dU;obtain⟨h1,h2⟩:=aau.1 hp;rw[fD]at hx;by_cases hy:y.1=d
  ·rw[if_pos hy]at hx;cases hx;have hr:bM d r=r:=by
    unfold bM;rw[abe];intro q hq;have:=h1 q hq;simp only[Bool.not_eq_true',abx];exact fun e=>this (hy.trans e.symm)
   have e:bM d (y::r)=r:=by
    have:bM d (y::r)=if (!decide (y.1=d))=true then y::bM d r else bM d r:=by simp[bM,List.filter_cons]
    rw[this,hr];simp[hy]
   rw[e];simp[fF];omega
  ·rw[if_neg hy]at hx;have:=ih (aau.1 hs).2 hx;have e:bM d (y::r)=y::bM d r:=by
    have:bM d (y::r)=if (!decide (y.1=d))=true then y::bM d r else bM d r:=by simp[bM,List.filter_cons]
    rw[this];simp[hy]
   rw[e];simp[fF]at this⊢;omega
theorem cn_le{T:aI}{k j:Int}{x:eG}(hx:aj j T=some x):cn k x≤fF T k:=by
 have hm:=cZ hx;have:∀(l:aI),(j,x)∈l→cn k x≤(l.map fun q=>cn k q.2).sum:=by
  intro l
  induction l with
  |nil=>simp
  |cons y r ih=>
   intro h;simp only[List.map_cons,List.sum_cons];rcases aaq.1 h with rfl|h
   ·exact Nat.le_add_right _ _
   ·have:=ih h;omega
 exact this T hm
theorem CS{T:aI}{k:Int}(h:fF T k=0){j:Int}{x:eG}(hx:aj j T=some x):∀e∈x.names,e.2≠k:=by
 have h1:cn k x=0:=by have:=cn_le (k:=k) hx;omega
 unfold cn at h1;rw[abY]at h1;intro e he;have:=h1 e he;simpa using this
theorem Cw.cu{T:aI}(h:Cw T){k:Int}{x:eG}{f:eG→eG}(hx:aj k T=some x)(h1:Qm (f x))(hk:(f x).kind=x.kind)(hn:∀e∈(f x).names,(aj e.2 T).isSome=true∧e.2≠0):Cw (Go.Proofs.YtmflaonodghbcaaGreatDoor.cu k f T):=by
 have hget:∀j y,aj j (Go.Proofs.YtmflaonodghbcaaGreatDoor.cu k f T)=some y→(j=k∧y=f x)∨(j≠k∧aj j T=some y):=fun j y hy=>by
  rw[bF]at hy;by_cases hj:j=k
  ·subst hj;rw[if_pos rfl,hx]at hy;simp only[aam,aag]at hy;exact .inl ⟨rfl,hy.symm⟩
  ·rw[if_neg hj]at hy;exact .inr ⟨hj,hy⟩
 have hsome:∀j,(aj j T).isSome=true→(aj j (Go.Proofs.YtmflaonodghbcaaGreatDoor.cu k f T)).isSome=true:=fun j hj=>by
  rw[bF];split<;>simp[hj]
 refine⟨Kv k f h.sorted,?_,fun j y hy=> ?_,fun j y hy e he=> ?_,by rw[Ku];exact h.len,fun j y hy=> ?_⟩
 ·have hr:=h.root;unfold bD at hr⊢;rw[bF];by_cases h0:(0:Int)=k
  ·subst h0;rw[if_pos rfl,hx];rw[hx]at hr;exact hk.trans hr
  ·rw[if_neg h0];exact hr
 ·rcases hget j y hy with⟨rfl,rfl⟩|⟨_,hy⟩
  ·exact h1
  ·exact h.each j y hy
 ·rcases hget j y hy with⟨rfl,rfl⟩|⟨_,hy⟩
  ·exact⟨hsome _ (hn e he).1,(hn e he).2⟩
  ·exact⟨hsome _ (h.leads j y hy e he).1,(h.leads j y hy e he).2⟩
 ·rcases hget j y hy with⟨rfl,rfl⟩|⟨_,hy⟩
  ·exact h.ids j x hx
  ·exact h.ids j y hy
theorem fu.cu{T:aI}(h:fu T){k:Int}{x:eG}{f:eG→eG}(hx:aj k T=some x)(h1:Qm (f x))(hk:(f x).kind=x.kind)(hn:∀e∈(f x).names,(aj e.2 T).isSome=true∧e.2≠0)
  (hc:∀j y,aj j (Go.Proofs.YtmflaonodghbcaaGreatDoor.cu k f T)=some y→j≠0→(fF (Go.Proofs.YtmflaonodghbcaaGreatDoor.cu k f T) j:Int)=y.links):fu (Go.Proofs.YtmflaonodghbcaaGreatDoor.cu k f T):=⟨h.toCw.cu hx h1 hk hn,hc⟩
theorem fu.Av{T:aI}(h:fu T){k:Int}{x:eG}{f:eG→eG}(hx:aj k T=some x)(h1:Qm (f x))(hk:(f x).kind=x.kind)(hn:(f x).names=x.names)(hl:(f x).links=x.links):fu (Go.Proofs.YtmflaonodghbcaaGreatDoor.cu k f T):=by
 refine h.cu hx h1 hk (by rw[hn];exact h.leads k x hx) fun j y hy hj=> ?_;have hcn:cn j (f x)=cn j x:=by unfold cn;rw[hn]
 have:=mY h.sorted f hx j;rw[hcn]at this;have e:fF (Go.Proofs.YtmflaonodghbcaaGreatDoor.cu k f T) j=fF T j:=by omega
 rw[e];rw[bF]at hy;by_cases hjk:j=k
 ·subst hjk;rw[if_pos rfl,hx]at hy;simp only[aam,aag]at hy;rw[←hy,hl];exact h.counts j x hx hj
 ·rw[if_neg hjk]at hy;exact h.counts j y hy hj
theorem UR:∀(m:Nat) (T:aI),aO jX T→(∀i:Nat,1≤i→i≤m→(aj (i:Int) T).isSome=true)→m≤T.length
 |0,_,_,_=>Nat.zero_le _
 |m+1,T,hs,h=>by
  obtain⟨x,hx⟩:=aak.1 (h (m+1) (by omega) (by omega));have h1:=uV dU hs hx;have h2:=UR m (bM ((m+1:Nat):Int) T) (hs.bM _) (fun i hi him=>by
   rw[eZ,if_neg (by omega)];exact h i hi (by omega))
  omega
theorem Nb{T:aI}(hs:aO jX T):∃f:Nat,Dz T=f∧1≤f∧f≤T.length+1∧aj (f:Int) T=none∧∀i:Nat,1≤i→i<f→(aj (i:Int) T).isSome=true:=by
 unfold Dz;cases hf:(((List.range (T.length+1)).map fun n:Nat=>(n:Int)+1).find? fun n=>(aj n T).isNone)with
 |none=>
  exfalso;have h1:=abm.1 hf;have:=UR (T.length+1) T hs (fun i hi him=>by
   have:=h1 (i:Int) (List.mem_map.2 ⟨i-1,by simp;omega,by omega⟩);cases hq:aj (i:Int) T with
   |none=>rw[hq]at this;simp at this
   |some v=>rfl)
  omega
 |some n=>
  rw[List.find?_eq_some_iff_append]at hf;obtain⟨hn,xs,ys,hab,hpre⟩:=hf;have hl:(xs++n::ys).length=T.length+1:=by rw[←hab];simp
  have hidx:∀i (hi:i<xs.length+1),(xs++n::ys)[i]? =some ((i:Int)+1):=fun i hi=>by
   rw[←hab];simp only[List.length_append,List.length_cons]at hl;simp[List.getElem?_range (show i<T.length+1 by omega)]
  have hne:n=(xs.length:Int)+1:=by
   have:=hidx xs.length (by omega);simpa using this
  simp only[List.length_append,List.length_cons]at hl;refine⟨xs.length+1,by simp[hne],by omega,by omega,?_,fun i hi hif=> ?_⟩
  ·have:((xs.length+1:Nat):Int)=n:=by omega
   rw[this];simpa using hn
  ·have h2:=hidx (i-1) (by omega);rw[aaZ (by omega)]at h2;have h3:=hpre _ (aaI h2);have e:((i-1:Nat):Int)+1=i:=by omega
   rw[e]at h3;cases hq:aj (i:Int) T with
   |none=>rw[hq]at h3;simp at h3
   |some v=>rfl
theorem fu.free{T:aI}(h:fu T):∃f:Nat,Dz T=f∧1≤f∧f≤T.length+1∧aj (f:Int) T=none∧∀i:Nat,1≤i→i<f→(aj (i:Int) T).isSome=true:=Nb h.sorted
theorem KC{α:Type}{l:List (Int×α)}{k:Int}(v:α)(h:aj k l=none):(bX jX k v l).length=l.length+1:=by
 unfold bX;rw[uT,rJ h]
theorem UU{α:Type}(t:α→Int)(m:Nat):∀(ks:List Int) (E:List α),(∀e∈E,t e∈ks)→(∀k∈ks,E.countP (fun e=>decide (t e=k))≤m)→E.length≤m*ks.length
 |[],E,h,_=>by
  cases E with
  |nil=>simp
  |cons e r=>have:=h e (by simp);simp at this
 |k::ks,E,h,hc=>by
  have h1:=UU t m ks (E.filter fun e=> !decide (t e=k)) (fun e he=>by
   obtain⟨h1,h2⟩:=aax.1 he;rcases aaq.1 (h e h1)with h3|h3
   ·simp[h3]at h2
   ·exact h3) (fun j hj=>by
    rw[List.countP_filter];refine Nat.le_trans (List.countP_mono_left fun e _ he=> ?_) (hc j (by simp[hj]));simp at he⊢;exact he.1)
  have h2:=hc k (by simp);have h3:E.length=E.countP (fun e=>decide (t e=k))+(E.filter fun e=> !decide (t e=k)).length:=by
   rw[←List.countP_eq_length_filter];exact(List.length_eq_countP_add_countP (fun e=>decide (t e=k))).trans (by
    have:List.countP (fun a=>decide (¬decide (t a=k)=true)) E=List.countP (fun e=> !decide (t e=k)) E:=List.countP_congr (fun e _=>by simp);rw[this])
  rw[List.length_cons,Nat.mul_succ];omega
theorem fu.few{T:aI}(h:fu T){k:Int}{x:eG}(hx:aj k T=some x):x.names.length≤4096:=by
 have h1:=UU (fun e:Nm×Int=>e.2) 64 (T.map (·.1)) x.names (fun e he=>by
  obtain⟨y,hy⟩:=aak.1 (h.leads k x hx e he).1;exact List.mem_map.2 ⟨_,cZ hy,rfl⟩) (fun j hj=>by
   by_cases h0:j=0
   ·subst h0;have:x.names.countP (fun e=>decide (e.2=0))=0:=by
     rw[abY];intro e he;have:=(h.leads k x hx e he).2;simpa using this
    omega
   ·obtain⟨q,hq,rfl⟩:=List.mem_map.1 hj;have hy:=bI dU h.sorted hq;have h2:=h.counts _ _ hy h0;have h3:=(h.each _ _ hy).links;have h4:=cn_le (k:=q.1) hx;unfold cn at h4;omega)
 have:=h.len;rw[List.length_map]at h1;omega
theorem uY{T:aI}(hs:aO jX T){k j:Int}{x y:eG}(h:aj j (bX jX k x T)=some y):(j=k∧y=x)∨(j≠k∧aj j T=some y):=by
 rw[dS]at h;by_cases hj:j=k
 ·rw[if_pos hj]at h;exact .inl ⟨hj,by simpa using h.symm⟩
 ·rw[if_neg hj]at h;exact .inr ⟨hj,h⟩
theorem GQ{kind:Int}(hk:kind=1∨kind=2):Qm (dQ kind):=by
 refine⟨hk,fun _=>rfl,fun h=>⟨rfl,?_,rfl,rfl⟩,(fun h=>by cases h),by simp[dQ,aO],by simp[dQ],by simp[dQ],by simp[dQ],by simp[dQ]⟩;have:kind=2:=h;simp[dQ,this]
theorem Cw.add{T:aI}(h:Cw T){f:Int}{kind:Int}(hk:kind=1∨kind=2)(hf:aj f T=none)(h1:0≤f)(h2:f≤65535)(hl:T.length<64):Cw (bX jX f (dQ kind) T):=by
 refine⟨h.sorted.bX dU _ _,?_,fun j y hy=> ?_,fun j y hy e he=> ?_,by rw[KC _ hf];omega,fun j y hy=> ?_⟩
 ·obtain⟨x,hx,hk0⟩:=gT h.root;unfold bD;rw[dS,if_neg (fun e=>by rw[e,hf]at hx;cases hx),hx];exact hk0
 ·rcases uY h.sorted hy with⟨rfl,rfl⟩|⟨_,hy⟩
  ·exact GQ hk
  ·exact h.each j y hy
 ·rcases uY h.sorted hy with⟨rfl,rfl⟩|⟨_,hy⟩
  ·cases he
  ·have:=h.leads j y hy e he;refine⟨?_,this.2⟩;rw[dS];split
   ·rfl
   ·exact this.1
 ·rcases uY h.sorted hy with⟨rfl,rfl⟩|⟨_,hy⟩
  ·exact⟨h1,h2⟩
  ·exact h.ids j y hy
theorem UW{T:aI}{f kind:Int}(hf:aj f T=none)(k:Int):fF (bX jX f (dQ kind) T) k=fF T k:=by
 unfold bX;rw[rJ hf,GN];simp[cn,dQ]
theorem Qo(n:Nm)(id k:Int):∀l:List (Nm×Int),(jq bytesBefore (n,id) l).countP (fun e=>decide (e.2=k))=l.countP (fun e=>decide (e.2=k))+if id=k then 1 else 0
 |[]=>by simp[jq,aa9]
 |y::r=>by
  unfold jq;split
  ·simp[aa9]
  ·simp only[aa9,Qo n id k r];omega
theorem Nc{x:eG}{n:Nm}{id:Int}(h:aj n x.names=none)(k:Int):cn k {x with names:=bX bytesBefore n id x.names}=cn k x+if id=k then 1 else 0:=by
 unfold cn bX;simp only;rw[rJ h,Qo]
theorem RB{T:aI}(h:Cw T){f:Int}(hf:aj f T=none):fF T f=0:=by
 have:∀l:aI,(∀q∈l,cn f q.2=0)→fF l f=0:=by
  intro l
  induction l with
  |nil=>intro _;rfl
  |cons y r ih=>
   intro hh;have h1:=ih (fun q hq=>hh q (by simp[hq]));have h2:=hh y (by simp);unfold fF at h1⊢;simp only[List.map_cons,List.sum_cons];omega
 refine this T fun q hq=> ?_;unfold cn;rw[abY];intro e he hd;have h1:=h.leads _ _ (bI dU h.sorted hq) e he;simp only[aar]at hd;rw[hd,hf]at h1;cases h1.1
theorem Y6{x:eG}(h:Qm x)(hk:x.kind=2){n:Nm}(hn:dO n=true)(id:Int):Qm {x with names:=bX bytesBefore n id x.names}:=by
 refine⟨h.kind,fun h1=> ?_,h.dir,h.gone,h.sorted.bX Dx _ _,fun e he=> ?_,h.size,h.links,h.aT⟩
 ·have:x.kind=1:=h1;omega
 ·rcases (pG bytesBefore).1 he with h1|h1
  ·rw[h1];exact hn
  ·exact h.good e (aax.1 h1).1
theorem RD{x:eG}{n:Nm}{id:Int}{P:Nm×Int→Prop}(h:∀e∈x.names,P e)(h1:P (n,id)):∀e∈bX bytesBefore n id x.names,P e:=by
 intro e he;rcases (pG bytesBefore).1 he with h2|h2
 ·rw[h2];exact h1
 ·exact h e (aax.1 h2).1
theorem Cw.set{T:aI}(h:Cw T){d:Int}{x:eG}{n:Nm}{id:Int}(hx:aj d T=some x)(hk:x.kind=2)(hn:dO n=true)(hid:(aj id T).isSome=true∧id≠0):Cw (setName T d n id):=
 h.cu hx (Y6 (h.each d x hx) hk hn id) rfl (RD (h.leads d x hx) hid)
theorem fu.make{T:aI}(h:fu T){d kind f:Int}{x:eG}{n:Nm}(hk:kind=1∨kind=2)(hf:aj f T=none)(h1:1≤f)(h2:f≤65535)(hl:T.length<64)(hx:aj d T=some x)(hxk:x.kind=2)(hn:dO n=true)(hnn:aj n x.names=none):
  fu (setName (bX jX f (dQ kind) T) d n f):=by
 have hP:=h.toCw.add hk hf (by omega) h2 hl;have hdf:d≠f:=fun e=>by rw[e,hf]at hx;cases hx
 have hx':aj d (bX jX f (dQ kind) T)=some x:=by rw[dS,if_neg hdf];exact hx
 have hff:aj f (bX jX f (dQ kind) T)=some (dQ kind):=by rw[dS,if_pos rfl]
 refine⟨hP.set hx' hxk hn ⟨by rw[hff];rfl,by omega⟩,fun j y hy hj=> ?_⟩;have h3:=mY hP.sorted (fun x=>{x with names:=bX bytesBefore n f x.names}) hx' j;have h4:=Nc (id:=f) hnn j;have h5:=UW (kind:=kind) hf j;have hgt:∀z,aj j (bX jX f (dQ kind) T)=some z→z.links=y.links→(fF (setName (bX jX f (dQ kind) T) d n f) j:Int)=y.links:=by
  intro z hz hzl;unfold setName;rcases uY h.sorted hz with⟨rfl,rfl⟩|⟨hjf,hz⟩
  ·have:=RB h.toCw hf;rw[if_pos rfl]at h4;have e:fF (Go.Proofs.YtmflaonodghbcaaGreatDoor.cu d (fun x=>{x with names:=bX bytesBefore n j x.names}) (bX jX j (dQ kind) T)) j=1:=by omega
   rw[e,←hzl];rfl
  ·rw[if_neg (aaP hjf)]at h4;have:=h.counts j z hz hj;have e:fF (Go.Proofs.YtmflaonodghbcaaGreatDoor.cu d (fun x=>{x with names:=bX bytesBefore n f x.names}) (bX jX f (dQ kind) T)) j=fF T j:=by omega
   rw[e,this,hzl]
 unfold setName at hy;rw[bF]at hy;by_cases hjd:j=d
 ·subst hjd;rw[if_pos rfl,hx']at hy;simp only[aam,aag]at hy;exact hgt x hx' (by rw[←hy])
 ·rw[if_neg hjd]at hy;exact hgt y hy rfl
theorem Tryz.bW(w:World):(zeroValue 189).run Tryz.prog w= .ok (.pointer none) w:=by kernel_rfl
theorem Tryz.jZ(w:World):(zeroValue 3).run Tryz.prog w= .ok (.int .i64 0) w:=by kernel_rfl
theorem mg{k:Int}(h1:0≤k)(h2:k≤1000000):aU.ok k:=by
 simp[aU,Lit.wf,IntKind.min,IntKind.max,IntKind.signed,IntKind.bits];omega
theorem DL{a b:Int}{c d:Int}(h:(a,c)=(b,d)):Ending.returned (.tuple #[.int .i64 a,.int .i64 c])= .returned (.tuple #[.int .i64 b,.int .i64 d]):=by
 cases h;rfl
theorem Nf{T:aI}{id:Int}{x:eG}{ls:List Nm}{k:Nat}{n:Nm}{j:Int}(hx:aj id T=some x)(hk2:x.kind=2)(hn:ls[k]? =some n)(hj:aj n x.names=some j):aG T id (ls.drop k)=aG T j (ls.drop (k+1)):=by
 obtain⟨hk,e⟩:=aaj.1 hn;rw[aa0 hk,e,aG,hx];simp only[hk2,if_pos,hj]
theorem Ng{T:aI}{id:Int}{x:eG}{ls:List Nm}{k:Nat}{n:Nm}(hx:aj id T=some x)(hk2:x.kind≠2)(hn:ls[k]? =some n):aG T id (ls.drop k)=(0,23):=by
 obtain⟨hk,e⟩:=aaj.1 hn;rw[aa0 hk,e,aG,hx];simp only[if_neg hk2]
theorem Nh{T:aI}{id:Int}{x:eG}{ls:List Nm}{k:Nat}{n:Nm}(hx:aj id T=some x)(hk2:x.kind=2)(hn:ls[k]? =some n)(hj:aj n x.names=none):aG T id (ls.drop k)=(0,20):=by
 obtain⟨hk,e⟩:=aaj.1 hn;rw[aa0 hk,e,aG,hx];simp only[hk2,if_pos,hj]
theorem DN{S:Nat→Prop}{g:Nat→Own}{D:Nat→Prop}{p mb:Nat}{ib nb:Int→Nat}{T:aI}(a:Option Addr)(n c:Nat)(ls:List Nm)(w:World)(h:aM g D w p mb ib nb T)(hT:OkW T)(hS:bH S w a n (ls.map strOf)):
  Calls Tryz.prog 126 #[ptr p,.slice a n c] w fun e w'=>e= .returned (.tuple #[.int .i64 (aG T 0 ls).1,.int .i64 (aG T 0 ls).2])∧w=w':=by
 have hln:ls.length=n:=by have:=hS.length;simpa using this
 have hnm:=hS.row.small;unfold maxLen at hnm;obtain⟨hc0,hpw,hmw⟩:=h.cell;have HH:=ab9 h;have HT:=ab9 hT;have HS:=ab9 hS;have HL:=ab9 hln;clear h hT hS hln;go_enter Tryz.func126,Tryz.ntmps126;go_wp2
 go_loop [6,14] (fun s i=>∃(k:Nat) (id:Int),k≤n∧i= .int .i64 k∧s= .int .i64 id∧(aj id T).isSome=true∧aG T id (ls.drop k)=aG T 0 ls) (fun _ i=>n-(intOf i).toNat)
 case atStart=>exact⟨0,0,by omega,rfl,rfl,kY HT.o,by simp⟩
 case round=>
  obtain⟨k,id,hk,rfl,rfl,hid,hlk⟩:=hrel;obtain⟨x,hx⟩:=aak.1 hid;have yO:=ab9 hlk;have HX:=ab9 hx;clear hlk hid hx;have xU:=HT.o.ids id x HX.o;have hok:aU.ok id:=mg xU.1 (by omega);obtain⟨c0,c1,c2,c3,c4,c5,c7,hiw⟩:=(HH.o.item id x HX.o).cell;have hget:aj id (T.map fun q=>(q.1,ptr (ib q.1)))=some (ptr (ib id)):=by rw[dH,HX.o];rfl
  have HG:=ab9 hget;clear hget;have hmap:=ab9 HH.o.map;by_cases hlt:k<n
  ·obtain⟨b,off,s,rfl,_,hbw,hs,hsz,hcell⟩:=HS.o.cell k hlt;obtain⟨nm,hnm',rfl⟩:∃nm,ls[k]? =some nm∧strOf nm=s:=by
    rw[List.getElem?_map]at hs;cases hq:ls[k]? with
    |none=>rw[hq]at hs;cases hs
    |some nm=>rw[hq]at hs;exact⟨nm,rfl,by simpa using hs⟩
   have HN:=ab9 hnm';have IV:fT.ok nm:=by show nm.length≤maxLen;rw[←iJ];exact hsz
   clear hs hnm';by_cases hk2:x.kind=2
   ·have e2:eu x (nb id)= .map (some (nb id)):=if_pos hk2;rw[e2]at c7;rw[hk2]at c1;have mh:=ab9 ((HH.o.item id x HX.o).names hk2);cases hj:aj nm x.names with
    |none=>
     have hgn:aj nm (dJ x)=none:=by rw[kZ,hj];rfl
     have Qp:=ab9 hgn;have hfin:=ab9 (Nh HX.o hk2 HN.o hj);clear hgn hj e2 hk2;go_wp2_with (first|(at_lookup;refine bJ aU rfl _ _ 186 189 rfl Tryz.underlying186 (Tryz.bW _) rfl hmap.o id rfl hok ?_;rw[HG.o])|(at_lookup;refine aS fT rfl _ _ 190 3 rfl Tryz.underlying190 (Tryz.jZ _) rfl mh.o nm rfl IV ?_;rw[Qp.o]))
     go_ret2
     exact⟨DL (by rw[←yO.o,hfin.o]),rfl⟩
    |some j=>
     have hgn:aj nm (dJ x)=some (.int .i64 j):=by rw[kZ,hj];rfl
     have Qp:=ab9 hgn;have hfin:=ab9 (Nf HX.o hk2 HN.o hj);have HJ:=ab9 ((HT.o.leads id x HX.o _ (cZ hj)).1);clear hgn hj e2 hk2;go_wp2_with (first|(at_lookup;refine bJ aU rfl _ _ 186 189 rfl Tryz.underlying186 (Tryz.bW _) rfl hmap.o id rfl hok ?_;rw[HG.o])|(at_lookup;refine aS fT rfl _ _ 190 3 rfl Tryz.underlying190 (Tryz.jZ _) rfl mh.o nm rfl IV ?_;rw[Qp.o]))
     go_round
     case rel=>exact⟨k+1,j,by omega,by go_num,rfl,HJ.o,by rw[←hfin.o];exact yO.o⟩
     case measure=>simp[intOf];omega
   ·have e1:(x.kind==2)=false:=by simpa using hk2
    have hfin:=ab9 (Ng HX.o hk2 HN.o);clear hk2 c7;go_wp2_with (first|(at_lookup;refine bJ aU rfl _ _ 186 189 rfl Tryz.underlying186 (Tryz.bW _) rfl hmap.o id rfl hok ?_;rw[HG.o]))
    go_ret2
    exact⟨DL (by rw[←yO.o,hfin.o]),rfl⟩
  ·clear c7;go_wp2
   go_ret2
   exact⟨DL (by rw[←yO.o,List.drop_of_length_le (by have:=HL.o;omega)];rfl),rfl⟩
def ze(T:aI)(ib:Int→Nat)(ls:List Nm)(w:World)(e:Ending)(w':World):Prop:=
 e= .returned (.tuple #[if (aQ T ls).2.2=0 then ptr (ib (aQ T ls).1)else .pointer none,.string (strOf (aQ T ls).2.1),.int .i64 (aQ T ls).2.2])∧Below w.heap.size w w'
theorem GR{S:Nat→Prop}{g:Nat→Own}{D:Nat→Prop}{p mb:Nat}{ib nb:Int→Nat}{T:aI}(a:Option Addr)(n c:Nat)(ls:List Nm)(w:World)(h:aM g D w p mb ib nb T)(hT:fu T)(hS:bH S w a n (ls.map strOf))(hc:n≤c)(vY:n≤1000000):
  Calls Tryz.prog 117 #[ptr p,.slice a n c] w (ze T ib ls w):=by
 have hln:ls.length=n:=by have:=hS.length;simpa using this
 have HH:=ab9 h;have HT:=ab9 hT;have HL:=ab9 hln;have hpar:=Na a n c (ls.map strOf) w hS (by omega) hc;have HP:=ab9 hpar;clear h hT hS hln hpar;by_cases hl0:ls=[]
 ·subst hl0;go_enter Tryz.func117,Tryz.ntmps117;go_wp2_with fail;refine HP.o.mono ?_;rintro e w1 (⟨_,rfl,rfl⟩|⟨_,_,x,hx,_⟩)
  ·go_wp2_with fail
   go_ret3
   exact⟨rfl,Below.refl _ _⟩
  ·cases hx
 ·have HL0:=ab9 hl0;clear hl0;go_enter Tryz.func117,Tryz.ntmps117;go_wp2_with fail;refine HP.o.mono ?_;rintro e w1 (⟨h0,_⟩|⟨gb,cap,x,hx,rfl,hca,hS1,hb1⟩)
  ·exact absurd (List.map_eq_nil_iff.1 h0) HL0.o
  ·have hdl:(ls.map strOf).dropLast=ls.dropLast.map strOf:=by simp[List.map_dropLast]
   rw[hdl]at hS1;have hxl:x=strOf (ls.getLastD []):=by
    rw[List.getLast?_map]at hx;cases hq:ls.getLast? with
    |none=>rw[hq]at hx;cases hx
    |some y=>
     rw[hq]at hx;simp only[aam,aag]at hx;rw[←hx];cases ls with
     |nil=>cases hq
     |cons z r=>rw[abD (by simp)]at hq;simp only[aag]at hq;rw[←hq,ab1,abD (by simp)];rfl
   subst hxl;obtain⟨m,hm⟩:∃m,m=(ls.map strOf).length-1:=⟨_,rfl⟩;obtain⟨nl,hnl⟩:∃nl,nl=ls.getLastD []:=⟨_,rfl⟩;rw[←hm]at hS1 hca⊢;rw[←hnl]at hx⊢;have HNL:=ab9 hnl;clear hm hnl;have hb1s:=hb1.size;have hA1:=HH.o.below hb1 ace;have yO:=ab9 (DN (some ⟨gb,0,none⟩) m cap ls.dropLast w1 hA1 HT.o hS1);have HA1:=ab9 hA1;have HB1:=ab9 hb1;clear hA1 hb1 hx hdl hS1 HP hca;obtain⟨hc0,hpw,hmw⟩:=HA1.o.cell;have hmap:=ab9 HA1.o.map;by_cases he:(aG T 0 ls.dropLast).2=0
   ·obtain⟨y,hy⟩:=aak.1 (lI HT.o ls.dropLast 0 (kY HT.o) he);have HE:=ab9 he;obtain⟨d,hd⟩:∃d,d=(aG T 0 ls.dropLast).1:=⟨_,rfl⟩;rw[←hd]at hy yO;rw[he]at yO;have HD:=ab9 hd;have HY:=ab9 hy;clear hy he hd;have xU:=HT.o.ids d y HY.o;have hok:aU.ok d:=mg xU.1 (by omega);obtain⟨c0,c1,c2,c3,c4,c5,c7,hiw⟩:=(HA1.o.item d y HY.o).cell;have hget:aj d (T.map fun q=>(q.1,ptr (ib q.1)))=some (ptr (ib d)):=by rw[dH,HY.o];rfl
    have HG:=ab9 hget;have hkm:bD T (aG T 0 ls.dropLast).1=y.kind:=by rw[←HD.o];unfold bD;rw[HY.o]
    have HKM:=ab9 hkm;clear hget hkm c7;by_cases hk2:y.kind=2
    ·have hpl:aQ T ls=(d,nl,0):=by
      unfold aQ;rw[if_neg HL0.o,if_neg (by rw[HE.o];simp),if_pos (HKM.o.trans hk2),←HD.o,←HNL.o]
     have Aw:=ab9 hpl;rw[hk2]at c1;clear hk2 hpl;go_wp2_with fail;refine yO.o.mono ?_;rintro e w2 ⟨rfl,rfl⟩;go_wp2_with (first|(at_lookup;refine bJ aU rfl _ _ 186 189 rfl Tryz.underlying186 (Tryz.bW _) rfl hmap.o d rfl hok ?_;rw[HG.o]))
     go_ret3
     exact⟨by rw[Aw.o];rfl,HB1.o⟩
    ·have hpl:aQ T ls=(0,[],23):=by
      unfold aQ;rw[if_neg HL0.o,if_neg (by rw[HE.o];simp),if_neg (by rw[HKM.o];exact hk2)]
     have Aw:=ab9 hpl;have e1:(y.kind==2)=false:=by simpa using hk2
     clear hk2 hpl;go_wp2_with fail;refine yO.o.mono ?_;rintro e w2 ⟨rfl,rfl⟩;go_wp2_with (first|(at_lookup;refine bJ aU rfl _ _ 186 189 rfl Tryz.underlying186 (Tryz.bW _) rfl hmap.o d rfl hok ?_;rw[HG.o]))
     go_ret3
     exact⟨by rw[Aw.o];rfl,HB1.o⟩
   ·have hpl:aQ T ls=(0,[],(aG T 0 ls.dropLast).2):=by
     unfold aQ;rw[if_neg HL0.o,if_pos he]
    have hne:((aG T 0 ls.dropLast).2==0)=false:=by simpa using he
    have Aw:=ab9 hpl;have HE:=ab9 he;generalize hgg:aG T 0 ls.dropLast=r at yO hne HE Aw;have HGG:=ab9 hgg;clear hpl he hgg;go_wp2_with fail;refine yO.o.mono ?_;rintro e w2 ⟨rfl,rfl⟩;go_wp2_with fail
    go_ret3
    exact⟨by rw[Aw.o,if_neg HE.o];rfl,HB1.o⟩
def Turn(g:Nat→Own)(D:Nat→Prop)(w:World)(p mb:Nat)(T':aI)(v:Value)(e:Ending)(w':World):Prop:=
 e= .returned v∧∃g' D' Qq nb',aM g' D' w' p mb Qq nb' T'∧(∀b,g' b≠ .none→g b≠ .none∨w.heap.size≤b)∧(∀b,D' b→D b∨w.heap.size≤b)∧Keeps (fun b=>g b≠ .none) w w'
theorem Turn.same{g:Nat→Own}{D:Nat→Prop}{w w':World}{p mb:Nat}{ib nb:Int→Nat}{T:aI}{v:Value}{e:Ending}(h:aM g D w p mb ib nb T)(hb:Below w.heap.size w w')(he:e= .returned v):Turn g D w p mb T v e w':=
 ⟨he,g,D,ib,nb,h.below hb ace,fun b h=> .inl h,fun b h=> .inl h,(Keeps.below hb).mono fun x hx hx'=>absurd hx (by omega)⟩
theorem nR{T:aI}{p:List Nm}(hT:fu T)(h:(aQ T p).2.2=0):∃x,aj (aQ T p).1 T=some x∧x.kind=2∧(aQ T p).2.1∈p:=by
 unfold aQ at h⊢;by_cases h0:p=[]
 ·rw[if_pos h0]at h;cases h
 ·rw[if_neg h0]at h⊢;by_cases h1:(aG T 0 p.dropLast).2≠0
  ·rw[if_pos h1]at h;exact absurd h h1
  ·rw[if_neg h1]at h⊢;by_cases h2:bD T (aG T 0 p.dropLast).1=2
   ·rw[if_pos h2];obtain⟨x,hx,hk⟩:=gT h2;refine⟨x,hx,hk,?_⟩;cases p with
    |nil=>exact absurd rfl h0
    |cons z r=>simp[ab1,abD]
   ·rw[if_neg h2]at h;cases h
theorem pU{p:List Nm}(h:bS p=0):∀n∈p,dO n=true:=by
 unfold bS at h;split at h
 ·cases h
 ·rename_i h1;intro n hn;have h2:(p.any fun x=> !dO x)=false:=by simpa only[Bool.not_eq_true]using h1
  have:=List.any_eq_false.1 h2 n hn;simpa using this
theorem Ay{p:List Nm}(h:bS p=0):p.length≤8:=by
 unfold bS at h;split at h
 ·cases h
 ·split at h
  ·cases h
  ·omega
theorem zf(l:List UInt8)(h:dO l=true):l.length≤16:=by
 simp only[dO,aa2,aar]at h;exact h.1.1.2
theorem UY(p:List Nm):jh [p]=bS p:=by
 unfold jh jh;by_cases h:bS p≠0
 ·rw[if_pos h]
 ·rw[if_neg h];omega
theorem lq{w:World}{v:Value}{t:TypeId}:(w.alloc (.cells #[v] t)).cell? ⟨w.heap.size,0,none⟩=some v:=by
 simp only[World.cell?,(MapKept.heap_alloc w _).1];rfl
theorem zh{w:World}{u v:Value}{t:TypeId}:(w.alloc (.cells #[u,v] t)).cell? ⟨w.heap.size,0,none⟩=some u∧(w.alloc (.cells #[u,v] t)).cell? ⟨w.heap.size,1,none⟩=some v:=by
 simp only[World.cell?,(MapKept.heap_alloc w _).1];exact⟨rfl,rfl⟩
theorem wall(w:World)(o:Obj):Below w.heap.size w (w.alloc o):=acf.alloc ace _
theorem DR{S:Nat→Prop}(a:Option Addr)(n c:Nat)(ls:List Nm)(w:World)(hS:bH S w a n (ls.map strOf)):
  Calls Tryz.prog 116 #[.slice (some ⟨w.heap.size,0,none⟩) 1 1] (w.alloc (.cells #[.slice a n c] 33)) fun e w'=>e= .returned (.int .i64 (bS ls))∧Below w.heap.size w w':=by
 refine(RA (S:=S) w.heap.size 1 [ls] _ rfl (by omega) (by simp) (fun k hk=> ?_)).mono ?_
 ·obtain rfl:k=0:=by omega
  exact⟨a,n,c,ls,lq,hS.below (wall w _) ace,rfl⟩
 ·rintro e w' ⟨rfl,hb⟩;rw[UY];exact⟨rfl,(wall w _).trans (hb.mono (by simp))⟩
theorem Ga{w w':World}{b:Nat}(h:w.mapTurned w' b):Keeps (fun x=>x=b) w w':=Keeps.turned h
theorem cK{w w':World}{b:Nat}(h:w.mapTurned w' b)(x:Nat)(hx:x<w.heap.size)(hn:x≠b):w'.heap[x]? =w.heap[x]? :=(Ga h).block x hx hn
theorem gD{w w':World}{b:Nat}(h:w.mapTurned w' b):Keeps (fun x=>x=b) w w':=Keeps.turned h
theorem aM.names{g:Nat→Own}{D:Nat→Prop}{w w':World}{p mb:Nat}{ib nb:Int→Nat}{T:aI}(h:aM g D w p mb ib nb T){d:Int}{x:eG}{l:List (Nm×Int)}(hx:aj d T=some x)(hk:x.kind=2)(hM:MapAt fT w' (nb d) (dJ {x with names:=l}))(hT:w.mapTurned w' (nb d))(f:eG→eG)(hf:f x={x with names:=l}):
  aM g D w' p mb ib nb (Go.Proofs.YtmflaonodghbcaaGreatDoor.cu d f T):=by
 have hs:=fI hT;have hn:=h.mX d x hx hk;refine h.cu hx (by rw[hf]) (fun _ h=>h) (fun b hb=>⟨h.data b hb,by rw[hs];exact h.oN b hb⟩) (by omega) (fun b hb h1 h2=>cK hT b hb (fun e=>h2 (by rw[e];exact hn))) ?_;have hb:∀b,b<w.heap.size→g b≠ .names d→w'.heap[b]? =w.heap[b]? :=fun b hb h2=>cK hT b hb (fun e=>h2 (by rw[e];exact hn));have hi:=h.item d x hx;have ti:=h.pR d x hx;obtain⟨a,c,h1,h2,h3⟩:=hi.cells;rw[hf];refine⟨⟨a,c,(hb _ (h.low _ (by rw[ti];simp)) (by rw[ti];simp)).trans h1,h2,h3.kept (by omega) fun b hD hbw=>hb b hbw (by rw[h.data b hD];simp)⟩,fun _=>hM⟩
theorem aM.set{g:Nat→Own}{D:Nat→Prop}{w w':World}{p mb:Nat}{ib nb:Int→Nat}{T:aI}(h:aM g D w p mb ib nb T){d id:Int}{x:eG}{n:Nm}(hx:aj d T=some x)(hk:x.kind=2)(hM:MapAt fT w' (nb d) (bX fT.lt n (.int .i64 id) (dJ x)))(hT:w.mapTurned w' (nb d)):
  aM g D w' p mb ib nb (setName T d n id):=by
 refine h.names (l:=bX bytesBefore n id x.names) hx hk ?_ hT _ rfl;have e:dJ {x with names:=bX bytesBefore n id x.names}=bX fT.lt n (.int .i64 id) (dJ x):=vX bytesBefore (fun(_:Nm) (i:Int)=>Value.int .i64 i) n id x.names;rw[e];exact hM
theorem aM.cut{g:Nat→Own}{D:Nat→Prop}{w w':World}{p mb:Nat}{ib nb:Int→Nat}{T:aI}(h:aM g D w p mb ib nb T){d:Int}{x:eG}{n:Nm}(hx:aj d T=some x)(hk:x.kind=2)(hM:MapAt fT w' (nb d) (bM n (dJ x)))(hT:w.mapTurned w' (nb d)):
  aM g D w' p mb ib nb (aZ T d n):=by
 refine h.names (l:=bM n x.names) hx hk ?_ hT _ rfl;have e:dJ {x with names:=bM n x.names}=bM n (dJ x):=Ap (fun(_:Nm) (i:Int)=>Value.int .i64 i) n x.names;rw[e];exact hM
theorem UZ{g:Nat→Own}{D:Nat→Prop}{w w3 w4:World}{p mb:Nat}{ib nb:Int→Nat}{T:aI}{f kind:Int}(h:aM g D w p mb ib nb T)(hf:aj f T=none)(hi:iV (fun _=>False) w3 f w.heap.size (w.heap.size+1) (dQ kind))(hb:Below w.heap.size w w3)(hs:w.heap.size<w3.heap.size)(hs2:kind=2→w.heap.size+1<w3.heap.size)
  (hM:MapAt aU w4 mb (bX aU.lt f (ptr w.heap.size) (T.map fun q=>(q.1,ptr (ib q.1)))))(hT:w3.mapTurned w4 mb):
  ∃g1 ib1 nb1,aM g1 D w4 p mb ib1 nb1 (bX jX f (dQ kind) T)∧(∀b,g1 b≠ .none→g b≠ .none∨w.heap.size≤b)∧Keeps (fun b=>g b≠ .none) w w4∧∀j,j≠f→ib1 j=ib j∧nb1 j=nb j:=by
 have hsz:=fI hT;have hK:=gD hT;have hmw:=h.map.lt;refine⟨_,_,_,h.add (i:=w.heap.size) (n:=w.heap.size+1) (x:=dQ kind) (k:=f) ace (by omega) (by omega) (by omega) (fun hk=>by have:=hs2 hk;omega) hf rfl hM (by omega) (fun b hbw hbm=>(hK.block b (by omega) hbm).trans (hb.block b hbw)) (hi.move (by omega) (hK.block _ hs (by omega)) (fun hk=>hK.block _ (hs2 hk) (by omega)) (fun _ h=>h.elim)),fun b hb1=> ?_,⟨hK.os.trans hb.os,hK.tape.trans hb.tape,hK.output.trans hb.output,by omega,fun b hbw hbg=>(hK.block b (by omega) (fun e=>hbg (by rw[e,h.jg];simp))).trans (hb.block b hbw)⟩,fun j hj=>⟨by simp[hj],by simp[hj]⟩⟩;by_cases hbi:w.heap.size≤b
 ·exact .inr hbi
 ·simp only[if_neg (show ¬b=w.heap.size by omega),if_neg (show ¬(b=w.heap.size+1∧(dQ kind).kind=2)by omega)]at hb1;exact .inl hb1
theorem U0{g g1:Nat→Own}{w w2 w4 w5:World}{nd:Nat}(hb2:Below w.heap.size w w2)(hg1:∀b,g1 b≠ .none→g b≠ .none∨w2.drew.heap.size≤b)(hK4:Keeps (fun b=>g b≠ .none) w2.drew w4)(Yz:w4.mapTurned w5 nd)(hnd:g1 nd≠ .none):
  (∀b,g1 b≠ .none→g b≠ .none∨w.heap.size≤b)∧Keeps (fun b=>g b≠ .none) w w5:=by
 have hs:=hb2.size;have hK:=gD Yz;have h4:w2.heap.size≤w4.heap.size:=hK4.size;have h5:=hK.size;refine⟨fun b hb=>(hg1 b hb).imp id fun h=>Nat.le_trans hs h,hK.os.trans (hK4.os.trans hb2.os),hK.tape.trans (hK4.tape.trans hb2.tape),hK.output.trans (hK4.output.trans hb2.output),by omega,fun b hb hbg=> ?_⟩;have h6:b≠nd:=fun e=>by
  rcases hg1 b (by rw[e];exact hnd)with h|h
  ·exact hbg h
  ·have:w2.heap.size≤b:=h;omega
 exact(hK.block b (by omega) h6).trans ((hK4.block b (show b<w2.heap.size by omega) hbg).trans (hb2.block b hb))
theorem Y7{S:Nat→Prop}{g:Nat→Own}{D:Nat→Prop}{p mb:Nat}{ib nb:Int→Nat}{T:aI}(a:Option Addr)(n c:Nat)(ls:List Nm)(kind:Int)(w:World)(h:aM g D w p mb ib nb T)(hT:fu T)(hS:bH S w a n (ls.map strOf))(hc:n≤c)(vY:n≤1000000):
  Calls Tryz.prog 49 #[ptr p,.slice a n c,.int .i64 kind] w (Turn g D w p mb (dF T ls kind).2 (.tuple #[.int .i64 (dF T ls kind).1.1,.int .i64 (dF T ls kind).1.2])):=by
 have HH:=ab9 h;have HT:=ab9 hT;have HS:=ab9 hS;have HF:=ab9 (DR (S:=S) a n c ls w hS);clear h hT hS;by_cases hf:bS ls=0
 ·have DT:=ab9 hf;rw[hf]at HF;clear hf;by_cases hk:kind=1∨kind=2
  ·have HK:=ab9 hk;have Aw:=ab9 (fun w1 (hb:Below w.heap.size w w1)=>GR a n c ls w1 (HH.o.below hb ace) HT.o (HS.o.below hb ace) hc vY);by_cases hp:(aQ T ls).2.2=0
   ·obtain⟨x,hx,hxk,hnm⟩:=nR HT.o hp;have hgn:=pU DT.o _ hnm;have HPE:=ab9 hp;obtain⟨⟨d,nm,z⟩,hq⟩:∃q,q=aQ T ls:=⟨_,rfl⟩;unfold ze at Aw;rw[←hq]at hp hx hnm hgn Aw;obtain rfl:z=0:=hp;have HQ:=ab9 hq;have HX:=ab9 hx;have HG:=ab9 hgn;have ML:=ab9 hxk;clear hq hx hgn hxk hnm;have xU:=HT.o.ids d x HX.o;have hlen:=HT.o.len;have IV:fT.ok nm:=by
     have:=zf nm HG.o;show nm.length≤maxLen;unfold maxLen;omega
    have HME:acd (∀k,(64≤T.length→k=4)→(T.length<64→k=0)→nQ T ls kind=if (aj nm x.names).isSome then 21 else k):=fun k h4 h0=>by
     unfold nQ;have e1:aX T d=x.names:=by unfold aX;rw[HX.o]
     rw[if_neg (by rw[DT.o];simp),if_neg (fun h=>h hk),←HQ.o,if_neg (by simp),e1];by_cases h64:64≤T.length
     ·rw[if_pos h64,h4 h64]
     ·rw[if_neg h64,h0 (by omega)]
    have KD:acd (∀w2,Below w.heap.size w w2→w2.cell? ⟨ib d,7,none⟩=some (.map (some (nb d)))∧MapAt fT w2 (nb d) (dJ x)∧w2.cell? ⟨p,0,none⟩=some (.map (some mb))∧MapAt aU w2 mb (T.map fun q=>(q.1,ptr (ib q.1)))):=fun w2 hb=>by
     have h2:=HH.o.below hb ace;have hi:=h2.item d x HX.o;obtain⟨_,_,_,_,_,_,c7,_⟩:=hi.cell;unfold eu at c7;rw[if_pos ML.o]at c7;exact⟨c7,hi.names ML.o,h2.cell.1,h2.map⟩
    cases hj:aj nm x.names with
    |some j=>
     have hgn:aj nm (dJ x)=some (.int .i64 j):=by rw[kZ,hj];rfl
     have Qp:=ab9 hgn;have hm:dF T ls kind=((0,21),T):=by
      have:nQ T ls kind=21:=by rw[HME.o (if 64≤T.length then 4 else 0) (fun h=>if_pos h) (fun h=>if_neg (by omega)),hj];rfl
      unfold dF;rw[this];simp
     have HM:=ab9 hm;clear hm hj hgn;rcases hk with rfl|rfl
     all_goals
      go_enter Tryz.func49,ab7;go_wp2_with fail;refine HF.o.mono ?_;rintro e w1 ⟨rfl,hb1⟩;have HB1:=ab9 hb1;clear hb1;go_wp2_with fail;refine(Aw.o w1 HB1.o).mono ?_;rintro e w2 ⟨rfl,hb2⟩
      (first|rw[if_pos rfl]|rw[if_pos trivial])
      have HB2:=ab9 (HB1.o.trans (hb2.mono HB1.o.size));clear hb2;obtain⟨c7,mh,_,_⟩:=KD.o w2 HB2.o;have Ai:=ab9 mh;clear mh;go_wp2_with (at_lookup;refine aS fT rfl _ _ 190 3 rfl Tryz.underlying190 (Tryz.jZ _) rfl Ai.o nm rfl IV ?_;rw[Qp.o])
      go_ret2
      rw[HM.o];exact Turn.same HH.o HB2.o rfl
    |none=>
     have hgn:aj nm (dJ x)=none:=by rw[kZ,hj];rfl
     have Qp:=ab9 hgn;have HJ:=ab9 hj;clear hgn hj;by_cases h64:64≤T.length
     ·have hm:dF T ls kind=((0,4),T):=by
       have:nQ T ls kind=4:=by rw[HME.o 4 (fun _=>rfl) (fun h=>by omega),HJ.o];rfl
       unfold dF;rw[this];simp
      have HM:=ab9 hm;have hd64:decide ((T.length:Int)<64)=false:=by simp;omega
      have hd65:decide ((64:Int)≤(T.length:Int))=true:=by simp;omega
      clear hm;rcases hk with rfl|rfl
      all_goals
       go_enter Tryz.func49,ab7;go_wp2_with fail;refine HF.o.mono ?_;rintro e w1 ⟨rfl,hb1⟩;have HB1:=ab9 hb1;clear hb1;go_wp2_with fail;refine(Aw.o w1 HB1.o).mono ?_;rintro e w2 ⟨rfl,hb2⟩
       (first|rw[if_pos rfl]|rw[if_pos trivial])
       have HB2:=ab9 (HB1.o.trans (hb2.mono HB1.o.size));clear hb2;obtain⟨c7,mh,c0,hmap⟩:=KD.o w2 HB2.o;have Ai:=ab9 mh;have lT:=ab9 hmap;clear mh hmap;go_wp2_with (first|(at_lookup;refine aS fT rfl _ _ 190 3 rfl Tryz.underlying190 (Tryz.jZ _) rfl Ai.o nm rfl IV ?_;rw[Qp.o])|(at_len;refine lH aU rfl _ 186 189 rfl Tryz.underlying186 rfl lT.o ?_;rw[List.length_map]))
       go_ret2
       rw[HM.o];exact Turn.same HH.o HB2.o rfl
     ·have hm:dF T ls kind=((Dz T,0),xS T ls kind):=by
       have:nQ T ls kind=0:=by rw[HME.o 0 (fun h=>absurd h h64) (fun h=>rfl),HJ.o];rfl
       unfold dF;rw[if_pos this]
      unfold xS at hm;rw[←HQ.o]at hm;obtain⟨f,hfE,hf1,hf2,hfn,hfs⟩:=HT.o.free;rw[hfE]at hm;have HM:=ab9 hm;have HFN:=ab9 hfn;have HFS:=ab9 hfs;have hd64:decide ((T.length:Int)<64)=true:=by simp;omega
      have hd65:decide ((64:Int)≤(T.length:Int))=false:=by simp;omega
      have uj:d≠(f:Int):=fun e=>by have:=HX.o;rw[e,HFN.o]at this;cases this
      have U1:=ab9 uj;clear hm hfn hfs hfE uj;have hokf:aU.ok (f:Int):=mg (by omega) (by omega);have HK:=ab9 hk;rcases hk with rfl|rfl
      all_goals
       go_enter Tryz.func49,ab7;go_wp2_with fail;refine HF.o.mono ?_;rintro e w1 ⟨rfl,hb1⟩;have HB1:=ab9 hb1;clear hb1;go_wp2_with fail;refine(Aw.o w1 HB1.o).mono ?_;rintro e w2 ⟨rfl,hb2⟩
       (first|rw[if_pos rfl]|rw[if_pos trivial])
       have HB2:=ab9 (HB1.o.trans (hb2.mono HB1.o.size));clear hb2;obtain⟨c7,mh,c0,hmap⟩:=KD.o w2 HB2.o;have Ai:=ab9 mh;have lT:=ab9 hmap;clear mh hmap;go_wp2_with (first|(at_lookup;refine aS fT rfl _ _ 190 3 rfl Tryz.underlying190 (Tryz.jZ _) rfl Ai.o nm rfl IV ?_;rw[Qp.o])|(at_len;refine lH aU rfl _ 186 189 rfl Tryz.underlying186 rfl lT.o ?_;rw[List.length_map]))
       go_loop [14] (fun s=>∃j:Nat,1≤j∧j≤f∧s= .int .i64 j) (fun s=>f-(intOf s).toNat)
       case atStart=>exact⟨1,by omega,by omega,rfl⟩
       case round=>
        obtain⟨j,hj1,hjf,rfl⟩:=hrel;have uH:aU.ok (j:Int):=mg (by omega) (by omega);by_cases hjf':j<f
        ·obtain⟨y,hy⟩:=aak.1 (HFS.o j hj1 hjf');have U2:acd (aj (j:Int) (T.map fun q=>(q.1,ptr (ib q.1)))=some (ptr (ib j))):=by rw[dH,hy];rfl
         clear hy;go_wp2_with (at_lookup;refine bJ aU rfl _ _ 186 189 rfl Tryz.underlying186 (Tryz.bW _) rfl lT.o (j:Int) rfl uH ?_;rw[U2.o])
         go_round
         case rel=>exact⟨j+1,by omega,by omega,by go_num⟩
         case measure=>simp[intOf];omega
        ·obtain rfl:f=j:=by omega
         have U2:acd (aj (f:Int) (T.map fun q=>(q.1,ptr (ib q.1)))=none):=by rw[dH,HFN.o];rfl
         go_wp2_with (at_lookup;refine bJ aU rfl _ _ 186 189 rfl Tryz.underlying186 (Tryz.bW _) rfl lT.o (f:Int) rfl uH ?_;rw[U2.o]);have HA2:=ab9 (HH.o.below HB2.o ace);have hpw:=HA2.o.cell.2.1;have hmw:=HA2.o.cell.2.2;have hpm:p≠mb:=fun e=>by have h1:=HH.o.qE;rw[e,HH.o.jg]at h1;cases h1
         have hst:∀v w3,Below w2.drew.heap.size w2.drew w3→∃w4,(Instr.mapUpdate 186 (.map (some mb)) (.int .i64 (f:Int)) v).run Tryz.prog w3= .ok () w4∧MapAt aU w4 mb (bX aU.lt (f:Int) v (T.map fun q=>(q.1,ptr (ib q.1))))∧w3.mapTurned w4 mb:=by
          intro v w3 hb3;have hm1:MapAt aU w3 mb (T.map fun q=>(q.1,ptr (ib q.1))):=lT.o.kept (hb3.block mb hmw);exact hm1.oZ aU Tryz.underlying186 (by rw[List.length_map];unfold maxLen;omega) (f:Int) v hokf
         have HST:=ab9 hst;have HPM:=ab9 hpm;have hkeep:∀w3,Below w2.drew.heap.size w2.drew w3→w3.cell? ⟨p,0,none⟩=some (.map (some mb)):=fun w3 hb3=>(hb3.cell (p:=⟨p,0,none⟩) hpw).trans c0;have U3:∀w3 w4,Below w2.drew.heap.size w2.drew w3→w3.mapTurned w4 mb→w4.cell? ⟨p,0,none⟩=some (.map (some mb)):=fun w3 w4 hb3 hT=>(World.cell?_of_block (w:=w3) (w':=w4) (a:=⟨p,0,none⟩) (cK hT p (Nat.lt_of_lt_of_le hpw hb3.size) HPM.o)).trans ((hb3.cell (p:=⟨p,0,none⟩) hpw).trans c0);have GL:=ab9 hkeep;have HKP2:=ab9 U3;have HFA:=ab9 (fun w=>Ar (f:Int) 1 w);clear hst hpm hkeep U3
         go_region_held3 (fun w'=>w'.cell? ⟨p,0,none⟩=some (.map (some mb))) (first|exact c0|exact GL.o _ hb3|exact HKP2.o _ _ hb3 sH) ((first|(go_at_call 118;refine(Ar (f:Int) _ _).mono ?_;rintro e w3 ⟨rfl,hi3,hb3,hs3,hs4⟩)|(obtain⟨w4,GU,qK,sH⟩:=HST.o (ptr w2.heap.size) w3 hb3;rw[GU];go_simp)))
         have HI3:=ab9 hi3;have HB3:=ab9 hb3;have xV:=ab9 hs3;have pV:=ab9 hs4;have mo:=ab9 qK;have Um:=ab9 sH;clear hi3 hb3 hs3 hs4 qK sH GU;obtain⟨g1,ib1,nb1,MN,hg1,hK4,hib⟩:=UZ (HA2.o.below acf.drew ace) HFN.o HI3.o HB3.o xV.o (by first|exact pV.o|exact fun _=>pV.o trivial) mo.o Um.o;have hx4:∀kd,aj d (bX jX (f:Int) (dQ kd) T)=some x:=fun kd=>by rw[dS,if_neg U1.o];exact HX.o
         obtain⟨_,_,_,_,_,_,c74,_⟩:=(MN.item d x (hx4 _)).cell;have hnm4:=(MN.item d x (hx4 _)).names ML.o;unfold eu at c74;rw[if_pos ML.o,(hib d U1.o).1]at c74;obtain⟨nd,hnd⟩:∃nd,nd=nb1 d:=⟨_,rfl⟩;rw[←hnd]at c74 hnm4;have HA4:=ab9 MN;have HG1:=ab9 hg1;have rM:=ab9 hK4;have HX4:=ab9 hx4;have HNM4:=ab9 hnm4;have YA:=ab9 hnd;have HFW:acd ((dJ x).length<maxLen):=by
          have h1:=HT.o.few HX.o;have h2:(dJ x).length<maxLen:=by unfold dJ maxLen;rw[List.length_map];omega
          exact h2
         clear MN hg1 hK4 hx4 hnm4 hnd hib;go_wp2_with (at_mapUpdate;refine lX fT rfl _ _ _ 190 3 rfl Tryz.underlying190 rfl HNM4.o HFW.o nm (.int .i64 (f:Int)) rfl rfl IV ?_;intro w5 Ni Yz)
         go_ret2
         rw[HM.o];have MN:=HA4.o;have hnd:=YA.o;have hgn:g1 nd≠ .none:=by rw[hnd,MN.mX d x (HX4.o _) ML.o];simp
         obtain⟨e1,e2⟩:=U0 HB2.o HG1.o rM.o Yz hgn;subst hnd;exact⟨rfl,g1,D,ib1,nb1,MN.set (HX4.o _) ML.o Ni Yz,e1,fun b h=> .inl h,e2⟩
   ·have hne:((aQ T ls).2.2==0)=false:=by simpa using hp
    have hne2:((aQ T ls).2.2 !=0)=true:=by simpa using hp
    have hm:dF T ls kind=((0,(aQ T ls).2.2),T):=by
     have:nQ T ls kind=(aQ T ls).2.2:=by unfold nQ;rw[if_neg (by rw[DT.o];simp),if_neg (fun h=>h hk),if_pos hp]
     unfold dF;rw[this,if_neg hp]
    have HM:=ab9 hm;have HP:=ab9 hp;unfold ze at Aw;generalize aQ T ls=q at*;clear hm hp;rcases hk with rfl|rfl
    all_goals
     go_enter Tryz.func49,ab7;go_wp2_with fail;refine HF.o.mono ?_;rintro e w1 ⟨rfl,hb1⟩;have HB1:=ab9 hb1;clear hb1;go_wp2_with fail;refine(Aw.o w1 HB1.o).mono ?_;rintro e w2 ⟨rfl,hb2⟩;rw[if_neg HP.o];have HB2:=ab9 hb2;clear hb2;go_wp2_with fail
     go_ret2
     rw[HM.o];exact Turn.same HH.o (HB1.o.trans (HB2.o.mono HB1.o.size)) rfl
  ·have HK:=ab9 hk;have e1:(kind !=1)=true:=by simp;omega
   have e2:(kind !=2)=true:=by simp;omega
   have hm:dF T ls kind=((0,30),T):=by
    have:nQ T ls kind=30:=by unfold nQ;rw[if_neg (by rw[DT.o];simp),if_pos HK.o]
    unfold dF;rw[this];simp
   have HM:=ab9 hm;clear hm hk;go_enter Tryz.func49,ab7;go_wp2_with fail;refine HF.o.mono ?_;rintro e w1 ⟨rfl,hb1⟩;go_wp2_with fail
   go_ret2
   rw[HM.o];exact Turn.same HH.o hb1 rfl
 ·have hm:dF T ls kind=((0,bS ls),T):=by
   have:nQ T ls kind=bS ls:=by unfold nQ;rw[if_pos hf]
   unfold dF;rw[this,if_neg hf]
  have hne:(bS ls==0)=false:=by simpa using hf
  have hne2:(bS ls !=0)=true:=by simpa using hf
  have HM:=ab9 hm;clear hm hf;go_enter Tryz.func49,ab7;go_wp2_with fail;refine HF.o.mono ?_;rintro e w1 ⟨rfl,hb1⟩;go_wp2_with fail
  go_ret2
  rw[HM.o];exact Turn.same HH.o hb1 rfl
end Go.Proofs.YtmflaonodghbcaaGreatDoor
