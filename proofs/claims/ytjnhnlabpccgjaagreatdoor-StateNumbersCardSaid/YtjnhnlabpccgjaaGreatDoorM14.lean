/- package -/
import Derived.Test.YtjnhnlabpccgjaaGreatDoorM13
import Derived.Test.YtjnhnlabpccgjaaGreatDoorM08
import Derived.WalkLawsBesides
import Derived.Deep.CutBlock
import Derived.Deep.DeepCutAuto
import Derived.Test.YtjnhnlabpccgjaaGreatDoorM11
import Derived.Test.YtjnhnlabpccgjaaGreatDoorM12
set_option maxRecDepth 100000
set_option maxHeartbeats 64000000
set_option linter.all false
namespace Go.Proofs.YtjnhnlabpccgjaaGreatDoor
open Go.ChangeShapes Go.WideShapes Go.ChangeAt Go.RowKit
def fT(n:Int):Nat→List UInt8
 |0=>[]
 |s+1=>UInt8.ofNat ((n/2^(8*s)).toNat%256)::fT n s
structure dN(B:Nat)(w:World)(x:Nat)(v:Value)(bs:List UInt8):Prop where
 head:w.heap[x]? =some (.cells #[v] 181 (0,0))
 own:w.ownsRow B 5 1 v bs.length (bs.map bv)
 low:B≤x
 apart:v.ownBlock≠some x
def lV(B:Nat)(w:World)(x:Nat)(v:Value)(bs:List UInt8)(v':Value)(w':World):Prop:=
 dN B w' x v' bs∧Keeps (fun b=>b=x∨v.ownBlock=some b) w w'∧∀b,v'.ownBlock=some b→v.ownBlock=some b∨w.heap.size≤b
def rR(B:Nat)(w:World)(x:Nat)(v:Value)(bs:List UInt8)(e:Ending)(w':World):Prop:=e= .returned (.tuple #[])∧∃v',lV B w x v bs v' w'
section
variable{B x:Nat}{w w1 w2:World}{v v1 v2:Value}{bs bs1 bs2:List UInt8}
theorem dN.lt(h:dN B w x v bs):x<w.heap.size:=(iA.1 h.head).1
theorem dN.cell(h:dN B w x v bs):w.cell? ⟨x,0,none⟩=some v:=by simp[World.cell?,h.head]
theorem dN.frozen(h:dN B w x v bs):w.frozen? ⟨x,0,none⟩=false:=by simp[World.frozen?,h.head]
theorem dN.kept(h:dN B w x v bs)(hs:w.heap.size≤w1.heap.size)(hx:w1.heap[x]? =w.heap[x]?)(hv:∀b,v.ownBlock=some b→w1.heap[b]? =w.heap[b]?):dN B w1 x v bs:=
 ⟨hx.trans h.head,dJ h.own fun b hb _=>hv b hb,h.low,h.apart⟩
theorem dN.below(h:dN B w x v bs)(hb:Below w.heap.size w w1):dN B w1 x v bs:=
 h.kept hb.size (hb.block x h.lt) fun b hb'=>hb.block b (kR h.own b hb')
theorem lV.refl(h:dN B w x v bs):lV B w x v bs v w:=⟨h,Keeps.refl _ _,fun b hb=> .inl hb⟩
theorem lV.trans(h:lV B w x v bs1 v1 w1)(k:lV B w1 x v1 bs2 v2 w2):lV B w x v bs2 v2 w2:=by
 obtain⟨h1,h2,h3⟩:=h;obtain⟨k1,k2,k3⟩:=k;have hs:=h2.size;refine⟨k1,h2.trans k2 fun b hb hb1=> ?_,fun b hb=> ?_⟩
 ·rcases hb1 with h4|h4
  ·exact .inl h4
  ·rcases h3 b h4 with h5|h5
   ·exact .inr h5
   ·omega
 ·rcases k3 b hb with h4|h4
  ·exact h3 b h4
  ·exact .inr (by omega)
theorem lV.below(h:lV B w x v bs v1 w1)(hb:Below w1.heap.size w1 w2):lV B w x v bs v1 w2:=by
 obtain⟨h1,h2,h3⟩:=h;exact⟨h1.below hb,h2.trans (Keeps.below hb) (fun b hb' hf=>by have:=h2.size;omega),h3⟩
end
theorem NI{B x:Nat}{wr wa u1:World}{v1 v2:Value}{bs bs':List UInt8}(h:dN B wr x v1 bs)(ha:Below wr.heap.size wr wa)(hown:u1.ownsRow B 5 1 v2 bs'.length (bs'.map bv))(hg:wa.grownBy u1 v1.ownBlock)(hat:v2.ownBlock=v1.ownBlock∨v2.ownBlock=some wa.heap.size):lV B wr x v1 bs' v2 (u1.setCell ⟨x,0,none⟩ v2):=by
 have hx:=h.lt;have hs1:=ha.size;have hs2:=hg.size;have hxb:u1.heap[x]? =some (.cells #[v1] 181 (0,0)):=(hg.block x (by omega) (fun e=>h.apart e.symm)).trans ((ha.block x hx).trans h.head);have hap:v2.ownBlock≠some x:=by
  rcases hat with h1|h1
  ·rw[h1];exact h.apart
  ·rw[h1];intro e;simp only[aac]at e;omega
 refine⟨⟨?_,dJ hown fun b hb hbw=>aV u1 _ _ _ (fun e=>hap (by rw[hb,e])),h.low,hap⟩,⟨hg.os.trans ha.os,hg.tape.trans ha.tape,hg.output.trans ha.output,by rw[size_set];omega,fun b hb hn=> ?_⟩,fun b hb=> ?_⟩
 ·simp only[World.setCell,Array.getElem?_modify,hxb];simp
 ·have h1:b≠x:=fun e=>hn (.inl e);have h2:v1.ownBlock≠some b:=fun e=>hn (.inr e);exact(aV u1 _ _ _ h1).trans ((hg.block b (by omega) (fun e=>h2 e.symm)).trans (ha.block b hb))
 ·rcases hat with h1|h1
  ·exact .inl (h1▸hb)
  ·rw[h1]at hb;cases hb;exact .inr hs1
theorem nY{n:Int}(hn:0≤n)(k:Nat):IntKind.u8.wrap (n/2^(8*(k:Int)).toNat)=((UInt8.ofNat ((n/2^(8*k)).toNat%256)).toNat:Int):=by
 have e1:(8*(k:Int)).toNat=8*k:=by omega
 rw[e1];have h0:0≤n/2^(8*k):=Int.ediv_nonneg hn (Int.pow_nonneg (by decide));generalize n/2^(8*k)=y at h0;have h1:(UInt8.ofNat (y.toNat%256)).toNat=y.toNat%256:=by simp
 rw[h1];simp only[IntKind.wrap,IntKind.bits,IntKind.signed];simp;omega
theorem Gv{B x:Nat}{w:World}{v:Value}{bs:List UInt8}(h:dN B w x v bs)(n:Int)(s:Nat)(hn:0≤n)(hn':n≤18446744073709551615)(hs:s≤8)(hl:bs.length≤100000000):
  Calls Tryz.prog 136 #[ptr x,.int .u64 n,.int .i64 s] w (rR B w x v (bs++fT n s)):=by
 obtain⟨i8,hi⟩:∃i,Tryz.prog.info? 5=some i∧i.zero=some (.int .u8 0)∧i.size=1∧i.bytes=1:=aap (by kernel_rfl);have HI:=acA hi;have HW:=acA h;clear h hi;go_enter Tryz.func136,Tryz.ntmps136;go_wp2
 go_loopw [6] (fun kv wr=>∃(k:Nat) (dn:List UInt8) (v1:Value),k≤s∧kv= .int .i64 ((k:Int)-1)∧dn++fT n k=fT n s∧dn.length+k=s∧lV B w x v (bs++dn) v1 wr) (fun kv _=>((intOf kv)+1).toNat)
 case atStart=>exact⟨s,[],v,Nat.le_refl _,by go_num,rfl,by simp,by simpa using lV.refl HW.o⟩
 case round=>
  obtain⟨k,dn,v1,hk,rfl,hdn,hdl,hm⟩:=hrel;have HM:=acA hm;have c0:=hm.1.cell;have f0:=hm.1.frozen;clear hm;cases k with
  |zero=>
   have Cc:=acA hdn;have e0:((0:Nat):Int)-1= -1:=by omega
   rw[e0];clear hdn;go_wp2_with fail
   go_end0
   refine⟨rfl,v1,?_⟩;have h9:=Cc.o;unfold fT at h9;rw[aaE]at h9;cases s with
   |zero=>
    have:dn=[]:=aai (by omega);subst this;exact HM.o
   |succ s=>
    rw[←show dn=fT n (s+1)from by rw[h9];rfl];exact HM.o
  |succ k=>
   have hk0:(0:Int)≤k:=by omega
   have e1:((k+1:Nat):Int)-1=(k:Int):=by omega
   rw[e1];have e2:IntKind.i64.wrap (8*(k:Int))=8*(k:Int):=aak _ (by omega);have hge:decide ((0:Int)≤(k:Int))=true:=by simp
   have hbw:=nY hn k;obtain⟨b0,hb0⟩:∃b0,b0=UInt8.ofNat ((n/2^(8*k)).toNat%256):=⟨_,rfl⟩;rw[←hb0]at hbw;have HB0:=acA hb0;have Cc:=acA hdn;have ji:acB (∀w',Below wr.heap.size wr w'→w'.cell? ⟨x,0,none⟩=some v1∧w'.frozen? ⟨x,0,none⟩=false):=fun w' hb=>⟨(HM.o.1.below hb).cell,(HM.o.1.below hb).frozen⟩;obtain⟨N,hN⟩:∃N,N=(bs++dn).length:=⟨_,rfl⟩;have hN2:N≤100000008:=by rw[hN,List.length_append];omega
   have HOW:acB (wr.ownsRow B 5 1 v1 N ((bs++dn).map bv)):=by rw[hN];exact HM.o.1.own
   have xP:=acA hN;have hBw:B≤wr.heap.size:=Nat.le_of_lt (Nat.lt_of_le_of_lt HM.o.1.low HM.o.1.lt);clear hb0 hdn hN;go_wp2_with fail;refine qA 14 ((fun w'=>w'.cell? ⟨x,0,none⟩=some v1∧w'.frozen? ⟨x,0,none⟩=false)) ?_ fun hS=> ?_
   ·exact ji.o _ acD.drew
   refine au 0 hS ?_;refine au 1 hS ?_;refine au 2 hS ?_;refine au 3 hS ?_;refine au 4 hS ?_;refine au 5 hS ?_;refine au 6 hS ?_;refine au 7 hS ?_;refine au 8 hS ?_;refine au 9 hS ?_;refine bB 10 fun K hK=> ?_;go_simp;have Ae:Below wr.heap.size wr (wr.drew.alloc (.cells #[bv b0] 5)):=acD.drew.alloc acC _;refine bK hK (ji.o _ Ae) fun hS=> ?_;clear hK K;refine bB 11 fun K hK=> ?_;refine BL (by rfl) (.tmp 17) (.tmp 23) 28 (by rfl) B 5 i8 _ 1 Tryz.underlying28 HI.o.1 HI.o.2.1 HI.o.2.2.1 HI.o.2.2.2 rfl v1 N ((bs++dn).map bv) (by rfl) (dJ HOW.o fun b hb hbw=>Ae.block b hbw) (some ⟨wr.heap.size,0,none⟩) 1 1 [bv b0] (by rfl) (rO (w:=wr.drew) (bv b0) 5) (by simp[bv,Value.oneCell']) (by unfold maxLen;omega) (by omega) (by simp;omega) ?_;intro A1 c1 u1 hown1 hg1 _ uU;have WM:u1.heap[x]? =some (.cells #[v1] 181 (0,0)):=(hg1.block x (Pd HM.o.1.lt Ae.size) (fun e=>HM.o.1.apart e.symm)).trans ((Ae.block x HM.o.1.lt).trans HM.o.1.head);have hu:u1.cell? ⟨x,0,none⟩=some v1∧u1.frozen? ⟨x,0,none⟩=false:=⟨by simp[World.cell?,WM],by simp[World.frozen?,WM]⟩;refine bK hK (hu) fun hS=> ?_;clear hK K;refine au 12 hS ?_;refine au 13 hS ?_;refine bB 14 fun K hK=> ?_;go_simp;refine kX hK ?_;clear hS hK K;go_wp2;go_roundw
   case rel=>
    refine⟨k,dn++[b0],.slice A1 (N+1) c1,by omega,by go_num,?_,by simp;omega,HM.o.trans (NI HM.o.1 Ae ?_ hg1 uU)⟩
    ·rw[aau,←Cc.o,HB0.o];rfl
    ·have h9:(bs++(dn++[b0])).length=N+1:=by rw[xP.o];simp;omega
     rw[h9];simpa using hown1
   case measure=>simp[intOf]
theorem oH(w:World):Calls Tryz.prog 63 #[] w fun e w'=>e= .returned (ptr w.heap.size)∧dN w.heap.size w' w.heap.size (.slice none 0 0) []∧Below w.heap.size w w':=by
 go_enter Tryz.func63,Tryz.ntmps63;go_wp2;go_ret;exact⟨rfl,⟨(MapKept.heap_alloc w _).1,⟨rfl,.inl ⟨rfl,rfl⟩⟩,Nat.le_refl _,by simp[Value.ownBlock]⟩,wall w _⟩
section
variable{B x:Nat}{w:World}{v:Value}{bs:List UInt8}
theorem lV.low{bs':List UInt8}{v':Value}{w':World}(h:lV B w x v bs' v' w')(h0:dN B w x v bs):Below B w w':=
 h.2.1.mh (Nat.le_of_lt (Nat.lt_of_le_of_lt h0.low h0.lt)) fun b hb hf=>by
  rcases hf with h1|h1
  ·have:=h0.low;omega
  ·have:=bA h0.own b h1;omega
theorem nZ(h:dN B w x v bs)(n:Int)(hn0:0≤n)(hn:n≤1000000000)(hl:bs.length≤100000000):Calls Tryz.prog 88 #[ptr x,.int .i64 n] w (rR B w x v (bs++fT n 2)):=by
 have HP:acB (Calls Tryz.prog 136 #[ptr x,.int .u64 n,.int .i64 2] w (rR B w x v (bs++fT n 2))):=Gv h n 2 (by omega) (by omega) (by omega) hl;have e1:IntKind.u64.wrap n=n:=by simp[IntKind.wrap,IntKind.bits,IntKind.signed];omega
 clear h;go_enter Tryz.func88,Tryz.ntmps88;go_wp2_with fail;refine HP.o.mono ?_;rintro e w1 ⟨rfl,v1,hm⟩;go_wp2_with fail
 go_end0
 exact⟨rfl,v1,hm⟩
theorem yQ(h:dN B w x v bs)(n:Int)(hn0:0≤n)(hn:n≤1000000000)(hl:bs.length≤100000000):Calls Tryz.prog 97 #[ptr x,.int .i64 n] w (rR B w x v (bs++fT n 1)):=by
 have HP:acB (Calls Tryz.prog 136 #[ptr x,.int .u64 n,.int .i64 1] w (rR B w x v (bs++fT n 1))):=Gv h n 1 (by omega) (by omega) (by omega) hl;have e1:IntKind.u64.wrap n=n:=by simp[IntKind.wrap,IntKind.bits,IntKind.signed];omega
 clear h;go_enter Tryz.func97,Tryz.ntmps97;go_wp2_with fail;refine HP.o.mono ?_;rintro e w1 ⟨rfl,v1,hm⟩;go_wp2_with fail
 go_end0
 exact⟨rfl,v1,hm⟩
theorem sI(h:dN B w x v bs)(n:Int)(hn:0≤n)(hn':n≤18446744073709551615)(hl:bs.length≤100000000):Calls Tryz.prog 64 #[ptr x,.int .u64 n] w (rR B w x v (bs++fT n 8)):=by
 have HP:acB (Calls Tryz.prog 136 #[ptr x,.int .u64 n,.int .i64 8] w (rR B w x v (bs++fT n 8))):=Gv h n 8 hn hn' (by omega) hl;clear h;go_enter Tryz.func64,Tryz.ntmps64;go_wp2_with fail;refine HP.o.mono ?_;rintro e w1 ⟨rfl,v1,hm⟩;go_wp2_with fail
 go_end0
 exact⟨rfl,v1,hm⟩
def yR(f:Bool):List UInt8:=fT (if f then 1 else 0) 1
theorem Sj(h:dN B w x v bs)(f:Bool)(hl:bs.length≤100000000):Calls Tryz.prog 168 #[ptr x,.bool f] w (rR B w x v (bs++yR f)):=by
 have Af:=acA (yQ h 1 (by omega) (by omega) hl);have HP0:=acA (yQ h 0 (by omega) (by omega) hl);clear h;cases f
 ·have HQ:acB (Calls Tryz.prog 97 #[ptr x,.int .i64 0] w (rR B w x v (bs++yR false))):=HP0.o;go_enter Tryz.func168,Tryz.ntmps168;go_wp2_with fail;refine HQ.o.mono ?_;rintro e w1 ⟨rfl,v1,hm⟩;go_wp2_with fail
  go_end0
  exact⟨rfl,v1,hm⟩
 ·have HQ:acB (Calls Tryz.prog 97 #[ptr x,.int .i64 1] w (rR B w x v (bs++yR true))):=Af.o;go_enter Tryz.func168,Tryz.ntmps168;go_wp2_with fail;refine HQ.o.mono ?_;rintro e w1 ⟨rfl,v1,hm⟩;go_wp2_with fail
  (try simp only[Exit.inBlock,Exit.then])
  refine aa3 (results_none rfl _ _ _) rfl ?_;exact⟨rfl,v1,hm⟩
theorem Lm{u1:World}(h:dN B w x v bs)(hg:w.grownBy u1 v.ownBlock):u1.cell? ⟨x,0,none⟩=some v∧u1.frozen? ⟨x,0,none⟩=false:=by
 have WM:=(hg.block x h.lt (fun e=>h.apart e.symm)).trans h.head;exact⟨by simp[World.cell?,WM],by simp[World.frozen?,WM]⟩
theorem Ce{S:Nat→Prop}(h:dN B w x v bs)(a:Option Addr)(m c:Nat)(l:List UInt8)(hr:ah S w a m (l.map bv))(hl:bs.length≤100000000)(hm:m≤100000000):Calls Tryz.prog 65 #[ptr x,.slice a m c] w (rR B w x v (bs++l)):=by
 obtain⟨i8,hi⟩:∃i,Tryz.prog.info? 5=some i∧i.zero=some (.int .u8 0)∧i.size=1∧i.bytes=1:=aap (by kernel_rfl);have HI:=acA hi;have HW:=acA h;have HR:=acA hr;have c0:=h.cell;have f0:=h.frozen;have hBw:B≤w.heap.size:=Nat.le_of_lt (Nat.lt_of_le_of_lt h.low h.lt);have hlm:l.length=m:=by simpa using hr.length
 have HLM:=acA hlm;clear h hi hr hlm;obtain⟨N,hN⟩:∃N,N=bs.length:=⟨_,rfl⟩;have HOW:acB (w.ownsRow B 5 1 v N (bs.map bv)):=by rw[hN];exact HW.o.own
 have xP:=acA hN;rw[←hN]at hl;clear hN;have hxw:=HW.o.lt;go_enter Tryz.func65,Tryz.ntmps65;go_wp2_with (at_builtin;refine aS rfl _ _ 28 rfl B 5 i8 _ 1 Tryz.underlying28 HI.o.1 HI.o.2.1 HI.o.2.2.1 HI.o.2.2.2 rfl v N (bs.map bv) rfl HOW.o a m c (l.map bv) rfl HR.o (eZ l) (by unfold maxLen;omega) (by omega) hBw ?_;intro A1 c1 u1 hown1 hg1 _ uU;have WM:=Lm HW.o hg1;have hcx:=WM.1;have hfx:=WM.2;clear WM)
 go_end0
 refine⟨rfl,_,NI (wa:=w) HW.o acD ?_ hg1 uU⟩;have h9:(bs++l).length=N+m:=by rw[List.length_append,←xP.o,HLM.o]
 rw[h9,List.map_append];exact hown1
theorem yS{S:Nat→Prop}(h:dN B w x v bs)(a:Option Addr)(m c:Nat)(l:List UInt8)(hr:ah S w a m (l.map bv))(hS:∀b,S b→b≠x∧v.ownBlock≠some b)(hc:m≤c)(hl:bs.length≤90000000)(hm:m≤65535):Calls Tryz.prog 91 #[ptr x,.slice a m c] w (rR B w x v (bs++(fT m 2++l))):=by
 have HS:=acA (nZ h (m:Int) (by omega) (by omega) (by omega));have HW:=acA h;have HRR:=acA hr;have HSS:=acA hS;have e1:min (m:Int) 65535=(m:Int):=by omega
 have h0:(0:Int)≤(m:Int):=by omega
 have h1:(m:Int)≤(c:Int):=by omega
 clear h hr hS;go_enter Tryz.func91,Tryz.ntmps91;go_wp2_with fail;refine HS.o.mono ?_;rintro e w1 ⟨rfl,v1,hm1⟩;have HM:=acA hm1;have hr1:ah S w1 a m (l.map bv):=HRR.o.kept hm1.2.1.size fun b hb hbw=>hm1.2.1.block b hbw fun hf=>by
  rcases hf with h4|h4
  ·exact(HSS.o b hb).1 h4
  ·exact(HSS.o b hb).2 h4
 have HRW:=acA (Ce hm1.1 a m c l hr1 (by rw[List.length_append];have:(fT (m:Int) 2).length=2:=rfl;omega) (by omega));clear hm1 hr1;go_wp2_with fail;refine HRW.o.mono ?_;rintro e w2 ⟨rfl,v2,hm2⟩;go_wp2_with fail
 go_end0
 refine⟨rfl,v2,?_⟩;have:=HM.o.trans hm2;rw[aau]at this;exact this
theorem yT(h:dN B w x v bs)(hl:bs.length≤100000000):Calls Tryz.prog 66 #[ptr x] w (tT w bs):=by
 obtain⟨a,c,rfl,hc⟩:=dI h.own;obtain⟨_,hr⟩:=ah.pJ h.own;have HC:=acA (mV a bs.length c bs w (by omega) hr);have c0:=h.cell;clear h hr;go_enter Tryz.func66,Tryz.ntmps66;go_wp2_with fail;refine HC.o.mono ?_;rintro e w1 ⟨a1,n1,c1,rfl,hn1,hr1,hb1⟩;go_wp2_with fail;go_ret;exact⟨a1,n1,c1,rfl,hn1,hr1,hb1⟩
end
theorem Lp(k:Int)(x:bP)(h1:NC x)(hk:0≤k)(hk':k≤65535)(w:World):Calls Tryz.prog 167 #[j_ k x] w fun e w'=>e= .returned (.bool true)∧Below w.heap.size w w':=by
 obtain⟨l0,l1⟩:=h1.links;obtain⟨t0,t1⟩:=h1.aA;have hb:=h1.size;obtain⟨n,hn⟩:∃n,n=x.b.length:=⟨_,rfl⟩;rw[←hn]at hb;have d1:decide (k<0)=false:=by simpa using hk
 have d2:decide (65535<k)=false:=by simpa using hk'
 have d3:decide (x.links<0)=false:=by simpa using l0
 have d4:decide (65535<x.links)=false:=by simp;omega
 have d5:decide ((n:Int)≤4096)=true:=by simp;omega
 have d6:decide (x.aA≤1099511627776)=true:=by simpa using t1
 have d7:decide ((0:Int)≤(n:Int))=true:=by simp
 unfold j_;rw[←hn];by_cases hk2:x.kind=2
 ·obtain⟨_,hcl,hbn,htl⟩:=h1.dir hk2;have hn0:n=0:=by rw[hn,hbn];rfl
  subst hn0;rw[hk2,hcl,htl];clear hn h1 hk2 hcl hbn htl d6;go_enter Tryz.func167,Tryz.ntmps167;go_wp2
  all_goals (first|(go_ret;exact⟨rfl,wall w _⟩)|((try simp only[Exit.inBlock,Exit.then]);refine aa3 (by rfl) rfl ?_;exact⟨rfl,wall w _⟩))
 ·have hk1:=h1.kind.resolve_right hk2;rw[hk1];clear hn h1 hk2 hk1;go_enter Tryz.func167,Tryz.ntmps167;go_wp2
  all_goals (first|(go_ret;exact⟨rfl,wall w _⟩)|((try simp only[Exit.inBlock,Exit.then]);refine aa3 (by rfl) rfl ?_;exact⟨rfl,wall w _⟩))
def vI(k:Int)(x:bP):List UInt8:=fT k 2++fT x.kind 1++fT x.links 2++fT x.b.length 2++fT x.aA 8++yR x.closed
theorem bT(n:Int):∀s,(fT n s).length=s
 |0=>rfl
 |s+1=>by unfold fT;rw[List.length_cons,bT n s]
theorem nJ(k:Int)(x:bP):(vI k x).length=16:=by
 unfold vI yR;simp only[List.length_append,bT]
theorem Lr(k:Int)(x:bP)(h1:NC x)(hk:0≤k)(hk':k≤65535)(w:World):Calls Tryz.prog 90 #[j_ k x] w fun e w'=>∃a n c,e= .returned (.tuple #[.slice a n c,.int .i64 0])∧n≤c∧ah (fun b=>w.heap.size≤b∧b<w'.heap.size) w' a n ((vI k x).map bv)∧Below w.heap.size w w':=by
 have HR:=acA (fun w'=>Lp k x h1 hk hk' w');obtain⟨l0,l1⟩:=h1.links;obtain⟨t0,t1⟩:=h1.aA;have hb:=h1.size;have hkd:0≤x.kind∧x.kind≤2:=by rcases h1.kind with h|h<;>omega
 obtain⟨kd0,kd1⟩:=hkd;unfold vI;obtain⟨n,hn⟩:∃n:Nat,n=x.b.length:=⟨_,rfl⟩;rw[←hn]at hb;unfold j_ at HR⊢;rw[←hn]at HR⊢;clear h1 hn;go_enter Tryz.func90,Tryz.ntmps90;go_wp2_with fail;refine(HR.o _).mono ?_;rintro e w1 ⟨rfl,hb1⟩;have hsa:(w.alloc (.cells #[.int .i64 k,.int .i64 x.kind,.int .i64 x.links,.int .i64 n,.int .u64 x.aA,.bool x.closed] 39)).heap.size=w.heap.size+1:=by simp
 have hs1:=hb1.size;have HQ:acB (∀w',Below w1.heap.size w1 w'→∀j,w'.cell? ⟨w.heap.size,j,none⟩=(#[.int .i64 k,.int .i64 x.kind,.int .i64 x.links,.int .i64 n,.int .u64 x.aA,.bool x.closed]:Array Value)[j]?):=fun w' hb j=>by
  rw[hb.cell (p:=⟨w.heap.size,j,none⟩) (by simp only;omega),hb1.cell (p:=⟨w.heap.size,j,none⟩) (by simp)];exact jS (MapKept.heap_alloc w _).1 j
 have HB1:=acA ((wall w (.cells #[.int .i64 k,.int .i64 x.kind,.int .i64 x.links,.int .i64 n,.int .u64 x.aA,.bool x.closed] 39)).trans (hb1.mono (by omega)));clear hb1 HR;go_wp2_with fail;refine(oH w1).mono ?_;rintro e w2 ⟨rfl,hW2,hb2⟩;have HW2:=acA hW2;have HB2:=acA hb2;clear hW2 hb2;have q0:w2.cell? ⟨w.heap.size,0,none⟩=some (.int .i64 k):=HQ.o _ HB2.o 0;have HS0:=acA (nZ HW2.o k (by omega) (by omega) (by simp only[List.length_append,List.length_nil,bT];omega));go_wp2_with fail;refine HS0.o.mono ?_;rintro e w3 ⟨rfl,v3,Fx⟩;have HW3:=acA Fx.1;have HB3:=acA (HB2.o.trans (Fx.low HW2.o));clear q0 Fx HS0 HW2 HB2;have q1:w3.cell? ⟨w.heap.size,1,none⟩=some (.int .i64 x.kind):=HQ.o _ HB3.o 1;have jI:=acA (yQ HW3.o x.kind (by omega) (by omega) (by simp only[List.length_append,List.length_nil,bT];omega));go_wp2_with fail;refine jI.o.mono ?_;rintro e w4 ⟨rfl,v4,WO⟩;have O6:=acA WO.1;have dY:=acA (HB3.o.trans (WO.low HW3.o));clear q1 WO jI HW3 HB3;have q2:w4.cell? ⟨w.heap.size,2,none⟩=some (.int .i64 x.links):=HQ.o _ dY.o 2;have HS2:=acA (nZ O6.o x.links (by omega) (by omega) (by simp only[List.length_append,List.length_nil,bT];omega));go_wp2_with fail;refine HS2.o.mono ?_;rintro e w5 ⟨rfl,v5,Ls⟩;have ZU:=acA Ls.1;have fH:=acA (dY.o.trans (Ls.low O6.o));clear q2 Ls HS2 O6 dY;have q3:w5.cell? ⟨w.heap.size,3,none⟩=some (.int .i64 n):=HQ.o _ fH.o 3;have IE:=acA (nZ ZU.o (n:Int) (by omega) (by omega) (by simp only[List.length_append,List.length_nil,bT];omega));go_wp2_with fail;refine IE.o.mono ?_;rintro e w6 ⟨rfl,v6,Sk⟩;have WQ:=acA Sk.1;have mM:=acA (fH.o.trans (Sk.low ZU.o));clear q3 Sk IE ZU fH;have q4:w6.cell? ⟨w.heap.size,4,none⟩=some (.int .u64 x.aA):=HQ.o _ mM.o 4;have jk:=acA (sI WQ.o x.aA (by omega) (by omega) (by simp only[List.length_append,List.length_nil,bT];omega));go_wp2_with fail;refine jk.o.mono ?_;rintro e w7 ⟨rfl,v7,Sl⟩;have Rt:=acA Sl.1;have wZ:=acA (mM.o.trans (Sl.low WQ.o));clear q4 Sl jk WQ mM;have q5:w7.cell? ⟨w.heap.size,5,none⟩=some (.bool x.closed):=HQ.o _ wZ.o 5;have dB:=acA (Sj Rt.o x.closed (by simp only[List.length_append,List.length_nil,bT];omega));go_wp2_with fail;refine dB.o.mono ?_;rintro e w8 ⟨rfl,v8,Gw⟩;have ZV:=acA Gw.1;have rD:=acA (wZ.o.trans (Gw.low Rt.o));clear q5 Gw dB Rt wZ;have HD:=acA (yT ZV.o (by simp only[List.length_append,List.length_nil,bT,yR];omega));go_wp2_with fail;refine HD.o.mono ?_;rintro e w9 ⟨a9,n9,c9,rfl,Y3,Ru,cO⟩;have fQ:=acA Ru;have uL:=acA (rD.o.trans (cO.mono rD.o.size));have IG:=rD.o.size;have hc9':=Y3;clear Ru cO HD;go_wp2_with fail
 go_ret2
 refine⟨a9,n9,c9,rfl,hc9',?_,HB1.o.trans (uL.o.mono HB1.o.size)⟩;have h9:=fQ.o.mono (S':=fun b=>w.heap.size≤b∧b<w9.heap.size) fun b hb=>⟨by have:=HB1.o.size;omega,hb.2⟩;simpa using h9
theorem lK(T:aL):∀(p q:List Nm) (a:Int),aJ T a (p++q)=if (aJ T a p).2=0 then aJ T (aJ T a p).1 q else aJ T a p
 |[],q,a=>by simp[aJ]
 |n::r,q,a=>by
  rcases Option.eq_none_or_eq_some (aj a T)with hx|⟨x,hx⟩
  ·simp[aJ,hx]
  ·by_cases hk:x.kind=2
   ·rcases Option.eq_none_or_eq_some (aj n x.names)with hn|⟨k,hn⟩
    ·simp[aJ,hx,hk,hn]
    ·simp only[List.cons_append,aJ,hx,if_pos hk,hn];exact lK T r q k
   ·simp[aJ,hx,hk]
theorem dx{T:aL}{p:List Nm}{id:Int}(h:aJ T 0 p=(id,0))(hp:p≠[]):∃d x n,aH T p=(d,n,0)∧aJ T 0 p.dropLast=(d,0)∧aj d T=some x∧x.kind=2∧aj n x.names=some id∧n∈p∧p=p.dropLast++[n]:=by
 obtain⟨q,n,rfl⟩:∃q n,p=q++[n]:=⟨p.dropLast,p.getLast hp,(List.dropLast_concat_getLast hp).symm⟩;rw[lK]at h;have hd:(q++[n]).dropLast=q:=by simp
 have hl:(q++[n]).getLastD []=n:=by simp[abN]
 by_cases he:(aJ T 0 q).2=0
 ·rw[if_pos he]at h;obtain⟨⟨d,e0⟩,hq⟩:∃r,r=aJ T 0 q:=⟨_,rfl⟩;rw[←hq]at h he;simp only at he;subst he;simp only[aJ]at h;cases hx:aj d T with
  |none=>rw[hx]at h;cases h
  |some x=>
   rw[hx]at h;simp only at h;by_cases hk:x.kind=2
   ·rw[if_pos hk]at h;cases hn:aj n x.names with
    |none=>rw[hn]at h;cases h
    |some k=>
     rw[hn]at h;simp only[Prod.mk.injEq,aaI]at h;subst h;refine⟨d,x,n,?_,by rw[hd,←hq],hx,hk,hn,by simp,by rw[hd]⟩;unfold aH;rw[if_neg hp,hd,hl,←hq,if_neg (by simp),if_pos ((dM hx).trans hk)]
   ·rw[if_neg hk]at h;cases h
 ·rw[if_neg he]at h;rw[h]at he;exact absurd rfl he
theorem Sm{α:Type}{κ:Type}[DecidableEq κ]{lt:κ→κ→Bool}(L:pF lt)(P:κ×α→Bool){l:List (κ×α)}(hs:aT lt l){k:κ}{v:α}(hg:aj k l=some v):(bS k l).countP P+(if P (k,v)then 1 else 0)=l.countP P:=by
 induction l with
 |nil=>cases hg
 |cons y r ih=>
  have hp:=hs.apart L;obtain⟨h1,h2⟩:=aaw.1 hp;rw[iQ]at hg;have hcons:bS k (y::r)=if y.1=k then bS k r else y::bS k r:=by
   unfold bS;rw[aaR];by_cases hy:y.1=k<;>simp[hy]
  rw[hcons];by_cases hy:y.1=k
  ·rw[if_pos hy]at hg;rw[if_pos hy];cases hg;have hr:bS k r=r:=by
    unfold bS;rw[abe];intro q hq;have:=h1 q hq;simp only[Bool.not_eq_true',aaF];exact fun e=>this (hy.trans e.symm)
   have e:(k,y.2)=y:=by rw[←hy]
   rw[hr,abQ,e]
  ·rw[if_neg hy]at hg;rw[if_neg hy,abQ,abQ];have:=ih (aaw.1 hs).2 hg;omega
theorem ZW{x:bP}(h:NC x){n:Nm}{id:Int}(hn:aj n x.names=some id)(k:Int):cn k {x with names:=bS n x.names}+(if id=k then 1 else 0)=cn k x:=by
 have:=Sm CF (fun e:Nm×Int=>decide (e.2=k)) h.sorted hn;unfold cn;simp only[aal]at this;exact this
theorem WR{x:bP}(h:NC x)(n:Nm)(hk:x.kind=2):NC {x with names:=bS n x.names}:=by
 refine⟨h.kind,fun h1=> ?_,h.dir,h.gone,h.sorted.bS _,fun e he=>h.good e (aaH.1 he).1,h.size,h.links,h.aA⟩;have:x.kind=1:=h1;omega
theorem BJ.cut{T:aL}(h:BJ T){d:Int}{x:bP}{n:Nm}(hx:aj d T=some x)(hk:x.kind=2):BJ (aG T d n):=
 h.bq hx (WR (h.each d x hx) n hk) rfl (fun e he=>h.leads d x hx e (aaH.1 he).1)
theorem BJ.del{T:aL}(h:BJ T){k:Int}{x:bP}(hx:aj k T=some x)(h0:k≠0)(hc:jh T k=0):BJ (bS k T):=by
 have hget:∀j y,aj j (bS k T)=some y→j≠k∧aj j T=some y:=fun j y hy=>by
  rw[fF]at hy;by_cases hj:j=k
  ·rw[if_pos hj]at hy;cases hy
  ·rw[if_neg hj]at hy;exact⟨hj,hy⟩
 refine⟨h.sorted.bS _,?_,fun j y hy=>h.each j y (hget j y hy).2,fun j y hy e he=> ?_,?_,fun j y hy=>h.ids j y (hget j y hy).2⟩
 ·have hr:=h.root;unfold dL at hr⊢;rw[fF,if_neg (abw h0)];exact hr
 ·have h1:=h.leads j y (hget j y hy).2 e he;have h2:=B_ hc (hget j y hy).2 e he;rw[fF,if_neg h2];exact h1
 ·have:=vB fC h.sorted hx;have:=h.len;omega
theorem sJ{T:aL}(h:BJ T){d id:Int}{x:bP}{n:Nm}(hx:aj d T=some x)(hn:aj n x.names=some id)(j:Int):jh (aG T d n) j+(if id=j then 1 else 0)=jh T j:=by
 have h1:=nX h.sorted (fun x=>{x with names:=bS n x.names}) hx j;have h2:=ZW (h.each d x hx) hn j;unfold aG;omega
theorem Gx{T:aL}{d j:Int}{n:Nm}{y:bP}(hy:aj j (aG T d n)=some y):∃z,aj j T=some z∧y.links=z.links∧y.kind=z.kind∧y.closed=z.closed∧y.b=z.b∧(j≠d→y=z):=by
 unfold aG at hy;rw[aW]at hy;by_cases hj:j=d
 ·rw[if_pos hj]at hy;cases hz:aj j T with
  |none=>rw[hz]at hy;cases hy
  |some z=>
   rw[hz]at hy;simp only[aat,aac]at hy;subst hy;exact⟨z,rfl,rfl,rfl,rfl,rfl,fun h=>absurd hj h⟩
 ·rw[if_neg hj]at hy;exact⟨y,hy,rfl,rfl,rfl,rfl,fun _=>rfl⟩
theorem dG.NJ{T:aL}(h:dG T){d id:Int}{x y:bP}{n:Nm}(hx:aj d T=some x)(hk:x.kind=2)(hn:aj n x.names=some id)(hy:aj id T=some y)(hid:id≠d)(h0:id≠0)(hyn:y.names=[])(hl:y.links=1):dG (bS id (aG T d n)):=by
 have hP:=h.toBJ.cut (n:=n) hx hk;have hy1:aj id (aG T d n)=some y:=by unfold aG;rw[aW,if_neg hid];exact hy
 have hc:=h.counts id y hy h0;have h1:=sJ h.toBJ hx hn id;rw[if_pos rfl]at h1;refine⟨hP.del hy1 h0 (by omega),fun j z hz hj=> ?_⟩;have hji:j≠id:=fun e=>by subst e;rw[qI]at hz;cases hz
 rw[fF,if_neg hji]at hz;obtain⟨z',hz',hl',_⟩:=Gx hz;have h2:=sJ h.toBJ hx hn j;rw[if_neg (abw hji)]at h2;have h3:=zV hP.sorted hy1 j;have h4:cn j y=0:=by unfold cn;rw[hyn];rfl
 have:=h.counts j z' hz' hj;omega
theorem dG.Sn{T:aL}(h:dG T){d id:Int}{x y:bP}{n:Nm}(hx:aj d T=some x)(hk:x.kind=2)(hn:aj n x.names=some id)(hy:aj id T=some y)(hyk:y.kind≠2):
  dG (iR (Go.Proofs.YtjnhnlabpccgjaaGreatDoor.bq id (fun x=>{x with links:=x.links-1}) (aG T d n)) id):=by
 have hoy:=h.each id y hy;have h0:=h.wI hy hyk;have hid:id≠d:=fun e=>by subst e;rw[hx]at hy;cases hy;exact hyk hk
 have hk1:=hoy.kind.resolve_right hyk;have hyn:=hoy.file hk1;have hP:=h.toBJ.cut (n:=n) hx hk;have hy1:aj id (aG T d n)=some y:=by unfold aG;rw[aW,if_neg hid];exact hy
 have hg:aj id (Go.Proofs.YtjnhnlabpccgjaaGreatDoor.bq id (fun x=>{x with links:=x.links-1}) (aG T d n))=some {y with links:=y.links-1}:=by rw[aW,if_pos rfl,hy1];rfl
 have hcy:=h.counts id y hy h0;have h1:=sJ h.toBJ hx hn id;rw[if_pos rfl]at h1;unfold iR;rw[hg];simp only;by_cases hc:y.links-1=0∧y.closed=true
 ·rw[if_pos hc];have e:bS id (Go.Proofs.YtjnhnlabpccgjaaGreatDoor.bq id (fun x=>{x with links:=x.links-1}) (aG T d n))=bS id (aG T d n):=by
   generalize aG T d n=L;unfold bS Go.Proofs.YtjnhnlabpccgjaaGreatDoor.bq
   induction L with
   |nil=>rfl
   |cons y r ih=>
    rw[aaA,aaR,aaR,ih];by_cases hy:y.1=id<;>simp[hy]
  rw[e];exact h.NJ hx hk hn hy hid h0 hyn (by omega)
 ·rw[if_neg hc];refine⟨hP.bq (f:=fun x=>{x with links:=x.links-1}) hy1 ⟨hoy.kind,hoy.file,fun h=>absurd h hyk,fun h=> ?_,hoy.sorted,hoy.good,hoy.size,?_,hoy.aA⟩ rfl (hP.leads id y hy1),fun j z hz hj=> ?_⟩
  ·cases hcl:y.closed with
   |true=>exact absurd ⟨h,hcl⟩ hc
   |false=>rfl
  ·have:=hoy.links;simp only;omega
  ·have h3:=nX hP.sorted (fun x=>{x with links:=x.links-1}) hy1 j;have h3':cn j {y with links:=y.links-1}=cn j y:=rfl;have h4:=sJ h.toBJ hx hn j;rw[aW]at hz;by_cases hji:j=id
   ·subst hji;rw[if_pos rfl,hy1]at hz;simp only[aat,aac]at hz;rw[if_pos rfl]at h4;rw[←hz];simp only;omega
   ·rw[if_neg hji]at hz;rw[if_neg (abw hji)]at h4;obtain⟨z',hz',hl',_⟩:=Gx hz;have:=h.counts j z' hz' hj;omega
theorem Gy{T:aL}{p:List Nm}(h:jL T p=0):bg p=0∧(aJ T 0 p).2=0∧dL T (aJ T 0 p).1≠2:=by
 unfold jL aQ at h;by_cases h1:bg p≠0
 ·rw[if_pos h1]at h;simp only[if_pos h1]at h;exact absurd h h1
 ·rw[if_neg h1]at h;by_cases h2:(aJ T 0 p).2≠0
  ·rw[if_pos h2]at h;exact absurd h h2
  ·rw[if_neg h2]at h;by_cases h3:dL T (aJ T 0 p).1=2
   ·rw[if_pos h3]at h;cases h
   ·exact⟨by omega,by omega,h3⟩
theorem dG.bC{T:aL}(h:dG T)(p:List Nm):dG (bC T p).2:=by
 unfold Go.Proofs.YtjnhnlabpccgjaaGreatDoor.bC;by_cases he:jL T p=0
 ·simp only[if_pos he];obtain⟨h1,h2,h3⟩:=Gy he;obtain⟨y,hy⟩:=aaf.1 (gL h p 0 (gu h) h2);have hp:p≠[]:=fun e=>by subst e;exact h3 h.root
  obtain⟨d,x,n,e1,_,hx,hk,hn,_⟩:=dx (id:=(aJ T 0 p).1) (aaO rfl h2) hp;rw[dM hy]at h3;unfold sD;rw[e1];exact h.Sn hx hk hn hy h3
 ·simp only[if_neg he];exact h
theorem Jq{T:aL}{p:List Nm}(h:jR T p=0):bg p=0∧(aJ T 0 p).2=0∧dL T (aJ T 0 p).1=2∧(aJ T 0 p).1≠0∧bJ T (aJ T 0 p).1=[]:=by
 unfold jR aQ at h;by_cases h1:bg p≠0
 ·rw[if_pos h1]at h;simp only[if_pos h1]at h;exact absurd h h1
 ·rw[if_neg h1]at h;by_cases h2:(aJ T 0 p).2≠0
  ·rw[if_pos h2]at h;exact absurd h h2
  ·rw[if_neg h2]at h;by_cases h3:dL T (aJ T 0 p).1≠2
   ·rw[if_pos h3]at h;cases h
   ·rw[if_neg h3]at h;by_cases h4:(aJ T 0 p).1=0
    ·rw[if_pos h4]at h;cases h
    ·rw[if_neg h4]at h;by_cases h5:0<(bJ T (aJ T 0 p).1).length
     ·rw[if_pos h5]at h;cases h
     ·exact⟨by omega,by omega,by omega,h4,aai (by omega)⟩
theorem dG.dP{T:aL}(h:dG T)(p:List Nm):dG (dP T p).2:=by
 unfold Go.Proofs.YtjnhnlabpccgjaaGreatDoor.dP;by_cases he:jR T p=0
 ·simp only[if_pos he];obtain⟨h1,h2,h3,h4,h5⟩:=Jq he;obtain⟨y,hy⟩:=aaf.1 (gL h p 0 (gu h) h2);have hp:p≠[]:=fun e=>by subst e;exact h4 rfl
  obtain⟨d,x,n,e1,_,hx,hk,hn,_⟩:=dx (id:=(aJ T 0 p).1) (aaO rfl h2) hp;have hyn:y.names=[]:=by unfold bJ at h5;rw[hy]at h5;exact h5
  rw[dM hy]at h3;unfold yI;rw[e1];refine h.NJ hx hk hn hy (fun e=> ?_) h4 hyn ((h.each _ y hy).dir h3).1;rw[e,hx]at hy;cases hy;rw[hyn]at hn;cases hn
 ·simp only[if_neg he];exact h
end Go.Proofs.YtjnhnlabpccgjaaGreatDoor
