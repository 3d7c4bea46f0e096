/- package -/
import Derived.Test.YtjnhnlabpccgjaaGreatDoorM12
import Derived.Test.YtjnhnlabpccgjaaGreatDoorM08
import Derived.WalkLawsBesides
import Derived.Deep.CutBlock
import Derived.Deep.DeepCutAuto
import Derived.Test.YtjnhnlabpccgjaaGreatDoorM11
set_option maxRecDepth 100000
set_option maxHeartbeats 64000000
set_option linter.all false
namespace Go.Proofs.YtjnhnlabpccgjaaGreatDoor
open Go.ChangeShapes Go.WideShapes Go.ChangeAt Go.RowKit
def eB(n:Int):Nat→List UInt8
 |0=>[]
 |s+1=>UInt8.ofNat ((n/2^(8*s)).toNat%256)::eB n s
structure dB(B:Nat)(w:World)(x:Nat)(v:Value)(bs:List UInt8):Prop where
 head:w.heap[x]? =some (.cells #[v] 181 (0,0))
 own:w.ownsRow B 5 1 v bs.length (bs.map bv)
 low:B≤x
 apart:v.ownBlock≠some x
def kT(B:Nat)(w:World)(x:Nat)(v:Value)(bs:List UInt8)(v':Value)(w':World):Prop:=
 dB B w' x v' bs∧Keeps (fun b=>b=x∨v.ownBlock=some b) w w'∧∀b,v'.ownBlock=some b→v.ownBlock=some b∨w.heap.size≤b
def qZ(B:Nat)(w:World)(x:Nat)(v:Value)(bs:List UInt8)(e:Ending)(w':World):Prop:=e= .returned (.tuple #[])∧∃v',kT B w x v bs v' w'
section
variable{B x:Nat}{w w1 w2:World}{v v1 v2:Value}{bs bs1 bs2:List UInt8}
theorem dB.lt(h:dB B w x v bs):x<w.heap.size:=(iL.1 h.head).1
theorem dB.cell(h:dB B w x v bs):w.cell? ⟨x,0,none⟩=some v:=by simp[World.cell?,h.head]
theorem dB.frozen(h:dB B w x v bs):w.frozen? ⟨x,0,none⟩=false:=by simp[World.frozen?,h.head]
theorem dB.kept(h:dB B w x v bs)(hs:w.heap.size≤w1.heap.size)(hx:w1.heap[x]? =w.heap[x]?)(hv:∀b,v.ownBlock=some b→w1.heap[b]? =w.heap[b]?):dB B w1 x v bs:=
 ⟨hx.trans h.head,fG h.own fun b hb _=>hv b hb,h.low,h.apart⟩
theorem dB.below(h:dB B w x v bs)(hb:Below w.heap.size w w1):dB B w1 x v bs:=
 h.kept hb.size (hb.block x h.lt) fun b hb'=>hb.block b (lK h.own b hb')
theorem kT.refl(h:dB B w x v bs):kT B w x v bs v w:=⟨h,Keeps.refl _ _,fun b hb=> .inl hb⟩
theorem kT.trans(h:kT B w x v bs1 v1 w1)(k:kT B w1 x v1 bs2 v2 w2):kT B w x v bs2 v2 w2:=by
 obtain⟨h1,h2,h3⟩:=h;obtain⟨k1,k2,k3⟩:=k;have hs:=h2.size;refine⟨k1,h2.trans k2 fun b hb hb1=> ?_,fun b hb=> ?_⟩
 ·rcases hb1 with h4|h4
  ·exact .inl h4
  ·rcases h3 b h4 with h5|h5
   ·exact .inr h5
   ·omega
 ·rcases k3 b hb with h4|h4
  ·exact h3 b h4
  ·exact .inr (by omega)
theorem kT.below(h:kT B w x v bs v1 w1)(hb:Below w1.heap.size w1 w2):kT B w x v bs v1 w2:=by
 obtain⟨h1,h2,h3⟩:=h;exact⟨h1.below hb,h2.trans (Keeps.below hb) (fun b hb' hf=>by have:=h2.size;omega),h3⟩
end
theorem Oc{B x:Nat}{wr wa u1:World}{v1 v2:Value}{bs bs':List UInt8}(h:dB B wr x v1 bs)(ha:Below wr.heap.size wr wa)(hown:u1.ownsRow B 5 1 v2 bs'.length (bs'.map bv))(hg:wa.grownBy u1 v1.ownBlock)(hat:v2.ownBlock=v1.ownBlock∨v2.ownBlock=some wa.heap.size):kT B wr x v1 bs' v2 (u1.setCell ⟨x,0,none⟩ v2):=by
 have hx:=h.lt;have hs1:=ha.size;have hs2:=hg.size;have hxb:u1.heap[x]? =some (.cells #[v1] 181 (0,0)):=(hg.block x (by omega) (fun e=>h.apart e.symm)).trans ((ha.block x hx).trans h.head);have hap:v2.ownBlock≠some x:=by
  rcases hat with h1|h1
  ·rw[h1];exact h.apart
  ·rw[h1];intro e;simp only[Pd]at e;omega
 refine⟨⟨?_,fG hown fun b hb hbw=>bA u1 _ _ _ (fun e=>hap (by rw[hb,e])),h.low,hap⟩,⟨hg.os.trans ha.os,hg.tape.trans ha.tape,hg.output.trans ha.output,by rw[size_set];omega,fun b hb hn=> ?_⟩,fun b hb=> ?_⟩
 ·simp only[World.setCell,Array.getElem?_modify,hxb];simp
 ·have h1:b≠x:=fun e=>hn (.inl e);have h2:v1.ownBlock≠some b:=fun e=>hn (.inr e);exact(bA u1 _ _ _ h1).trans ((hg.block b (by omega) (fun e=>h2 e.symm)).trans (ha.block b hb))
 ·rcases hat with h1|h1
  ·exact .inl (h1▸hb)
  ·rw[h1]at hb;cases hb;exact .inr hs1
theorem pK{n:Int}(hn:0≤n)(k:Nat):IntKind.u8.wrap (n/2^(8*(k:Int)).toNat)=((UInt8.ofNat ((n/2^(8*k)).toNat%256)).toNat:Int):=by
 have e1:(8*(k:Int)).toNat=8*k:=by omega
 rw[e1];have h0:0≤n/2^(8*k):=Int.ediv_nonneg hn (Int.pow_nonneg (by decide));generalize n/2^(8*k)=y at h0;have h1:(UInt8.ofNat (y.toNat%256)).toNat=y.toNat%256:=by simp
 rw[h1];simp only[IntKind.wrap,IntKind.bits,IntKind.signed];simp;omega
theorem G7{B x:Nat}{w:World}{v:Value}{bs:List UInt8}(h:dB B w x v bs)(n:Int)(s:Nat)(hn:0≤n)(hn':n≤18446744073709551615)(hs:s≤8)(hl:bs.length≤100000000):
  Calls Tryz.prog 136 #[ptr x,.int .u64 n,.int .i64 s] w (qZ B w x v (bs++eB n s)):=by
 obtain⟨i8,hi⟩:∃i,Tryz.prog.info? 5=some i∧i.zero=some (.int .u8 0)∧i.size=1∧i.bytes=1:=aam (by kernel_rfl);have HI:=acr hi;have HW:=acr h;clear h hi;go_enter Tryz.func136,Tryz.ntmps136;go_wp2
 go_loopw [6] (fun kv wr=>∃(k:Nat) (dn:List UInt8) (v1:Value),k≤s∧kv= .int .i64 ((k:Int)-1)∧dn++eB n k=eB n s∧dn.length+k=s∧kT B w x v (bs++dn) v1 wr) (fun kv _=>((intOf kv)+1).toNat)
 case atStart=>exact⟨s,[],v,Nat.le_refl _,by go_num,rfl,by simp,by simpa using kT.refl HW.o⟩
 case round=>
  obtain⟨k,dn,v1,hk,rfl,hdn,hdl,hm⟩:=hrel;have HM:=acr hm;have c0:=hm.1.cell;have f0:=hm.1.frozen;clear hm;cases k with
  |zero=>
   have Ck:=acr hdn;have e0:((0:Nat):Int)-1= -1:=by omega
   rw[e0];clear hdn;go_wp2_with fail
   go_end0
   refine⟨rfl,v1,?_⟩;have h9:=Ck.o;unfold eB at h9;rw[aaA]at h9;cases s with
   |zero=>
    have:dn=[]:=aad (by omega);subst this;exact HM.o
   |succ s=>
    rw[←show dn=eB n (s+1)from by rw[h9];rfl];exact HM.o
  |succ k=>
   have hk0:(0:Int)≤k:=by omega
   have e1:((k+1:Nat):Int)-1=(k:Int):=by omega
   rw[e1];have e2:IntKind.i64.wrap (8*(k:Int))=8*(k:Int):=aag _ (by omega);have hge:decide ((0:Int)≤(k:Int))=true:=by simp
   have hbw:=pK hn k;obtain⟨b0,hb0⟩:∃b0,b0=UInt8.ofNat ((n/2^(8*k)).toNat%256):=⟨_,rfl⟩;rw[←hb0]at hbw;have HB0:=acr hb0;have Ck:=acr hdn;have iW:acs (∀w',Below wr.heap.size wr w'→w'.cell? ⟨x,0,none⟩=some v1∧w'.frozen? ⟨x,0,none⟩=false):=fun w' hb=>⟨(HM.o.1.below hb).cell,(HM.o.1.below hb).frozen⟩;obtain⟨N,hN⟩:∃N,N=(bs++dn).length:=⟨_,rfl⟩;have hN2:N≤100000008:=by rw[hN,List.length_append];omega
   have HOW:acs (wr.ownsRow B 5 1 v1 N ((bs++dn).map bv)):=by rw[hN];exact HM.o.1.own
   have pq:=acr hN;have hBw:B≤wr.heap.size:=Nat.le_of_lt (Nat.lt_of_le_of_lt HM.o.1.low HM.o.1.lt);clear hb0 hdn hN;go_wp2_with fail;refine wQ 14 ((fun w'=>w'.cell? ⟨x,0,none⟩=some v1∧w'.frozen? ⟨x,0,none⟩=false)) ?_ fun hS=> ?_
   ·exact iW.o _ acv.drew
   refine aC 0 hS ?_;refine aC 1 hS ?_;refine aC 2 hS ?_;refine aC 3 hS ?_;refine aC 4 hS ?_;refine aC 5 hS ?_;refine aC 6 hS ?_;refine aC 7 hS ?_;refine aC 8 hS ?_;refine aC 9 hS ?_;refine bU 10 fun K hK=> ?_;go_simp;have IK:Below wr.heap.size wr (wr.drew.alloc (.cells #[bv b0] 5)):=acv.drew.alloc acu _;refine bV hK (iW.o _ IK) fun hS=> ?_;clear hK K;refine bU 11 fun K hK=> ?_;refine BK (by rfl) (.tmp 17) (.tmp 23) 28 (by rfl) B 5 i8 _ 1 Tryz.underlying28 HI.o.1 HI.o.2.1 HI.o.2.2.1 HI.o.2.2.2 rfl v1 N ((bs++dn).map bv) (by rfl) (fG HOW.o fun b hb hbw=>IK.block b hbw) (some ⟨wr.heap.size,0,none⟩) 1 1 [bv b0] (by rfl) (yN (w:=wr.drew) (bv b0) 5) (by simp[bv,Value.oneCell']) (by unfold maxLen;omega) (by omega) (by simp;omega) ?_;intro A1 c1 u1 hown1 hg1 _ uQ;have Xl:u1.heap[x]? =some (.cells #[v1] 181 (0,0)):=(hg1.block x (Nat.lt_of_lt_of_le HM.o.1.lt IK.size) (fun e=>HM.o.1.apart e.symm)).trans ((IK.block x HM.o.1.lt).trans HM.o.1.head);have hu:u1.cell? ⟨x,0,none⟩=some v1∧u1.frozen? ⟨x,0,none⟩=false:=⟨by simp[World.cell?,Xl],by simp[World.frozen?,Xl]⟩;refine bV hK (hu) fun hS=> ?_;clear hK K;refine aC 12 hS ?_;refine aC 13 hS ?_;refine bU 14 fun K hK=> ?_;go_simp;refine nk hK ?_;clear hS hK K;go_wp2;go_roundw
   case rel=>
    refine⟨k,dn++[b0],.slice A1 (N+1) c1,by omega,by go_num,?_,by simp;omega,HM.o.trans (Oc HM.o.1 IK ?_ hg1 uQ)⟩
    ·rw[TK,←Ck.o,HB0.o];rfl
    ·have h9:(bs++(dn++[b0])).length=N+1:=by rw[pq.o];simp;omega
     rw[h9];simpa using hown1
   case measure=>simp[intOf]
theorem nU(w:World):Calls Tryz.prog 63 #[] w fun e w'=>e= .returned (ptr w.heap.size)∧dB w.heap.size w' w.heap.size (.slice none 0 0) []∧Below w.heap.size w w':=by
 go_enter Tryz.func63,Tryz.ntmps63;go_wp2;go_ret;exact⟨rfl,⟨(MapKept.heap_alloc w _).1,⟨rfl,.inl ⟨rfl,rfl⟩⟩,Nat.le_refl _,by simp[Value.ownBlock]⟩,wall w _⟩
section
variable{B x:Nat}{w:World}{v:Value}{bs:List UInt8}
theorem kT.low{bs':List UInt8}{v':Value}{w':World}(h:kT B w x v bs' v' w')(h0:dB B w x v bs):Below B w w':=
 h.2.1.gP (Nat.le_of_lt (Nat.lt_of_le_of_lt h0.low h0.lt)) fun b hb hf=>by
  rcases hf with h1|h1
  ·have:=h0.low;omega
  ·have:=dA h0.own b h1;omega
theorem nJ(h:dB B w x v bs)(n:Int)(hn0:0≤n)(hn:n≤1000000000)(hl:bs.length≤100000000):Calls Tryz.prog 88 #[ptr x,.int .i64 n] w (qZ B w x v (bs++eB n 2)):=by
 have HP:acs (Calls Tryz.prog 136 #[ptr x,.int .u64 n,.int .i64 2] w (qZ B w x v (bs++eB n 2))):=G7 h n 2 (by omega) (by omega) (by omega) hl;have e1:IntKind.u64.wrap n=n:=by simp[IntKind.wrap,IntKind.bits,IntKind.signed];omega
 clear h;go_enter Tryz.func88,Tryz.ntmps88;go_wp2_with fail;refine HP.o.mono ?_;rintro e w1 ⟨rfl,v1,hm⟩;go_wp2_with fail
 go_end0
 exact⟨rfl,v1,hm⟩
theorem yR(h:dB B w x v bs)(n:Int)(hn0:0≤n)(hn:n≤1000000000)(hl:bs.length≤100000000):Calls Tryz.prog 97 #[ptr x,.int .i64 n] w (qZ B w x v (bs++eB n 1)):=by
 have HP:acs (Calls Tryz.prog 136 #[ptr x,.int .u64 n,.int .i64 1] w (qZ B w x v (bs++eB n 1))):=G7 h n 1 (by omega) (by omega) (by omega) hl;have e1:IntKind.u64.wrap n=n:=by simp[IntKind.wrap,IntKind.bits,IntKind.signed];omega
 clear h;go_enter Tryz.func97,Tryz.ntmps97;go_wp2_with fail;refine HP.o.mono ?_;rintro e w1 ⟨rfl,v1,hm⟩;go_wp2_with fail
 go_end0
 exact⟨rfl,v1,hm⟩
theorem rW(h:dB B w x v bs)(n:Int)(hn:0≤n)(hn':n≤18446744073709551615)(hl:bs.length≤100000000):Calls Tryz.prog 64 #[ptr x,.int .u64 n] w (qZ B w x v (bs++eB n 8)):=by
 have HP:acs (Calls Tryz.prog 136 #[ptr x,.int .u64 n,.int .i64 8] w (qZ B w x v (bs++eB n 8))):=G7 h n 8 hn hn' (by omega) hl;clear h;go_enter Tryz.func64,Tryz.ntmps64;go_wp2_with fail;refine HP.o.mono ?_;rintro e w1 ⟨rfl,v1,hm⟩;go_wp2_with fail
 go_end0
 exact⟨rfl,v1,hm⟩
def ql(f:Bool):List UInt8:=eB (if f then 1 else 0) 1
theorem Tw(h:dB B w x v bs)(f:Bool)(hl:bs.length≤100000000):Calls Tryz.prog 168 #[ptr x,.bool f] w (qZ B w x v (bs++ql f)):=by
 have Ab:=acr (yR h 1 (by omega) (by omega) hl);have HP0:=acr (yR h 0 (by omega) (by omega) hl);clear h;cases f
 ·have HQ:acs (Calls Tryz.prog 97 #[ptr x,.int .i64 0] w (qZ B w x v (bs++ql false))):=HP0.o;go_enter Tryz.func168,Tryz.ntmps168;go_wp2_with fail;refine HQ.o.mono ?_;rintro e w1 ⟨rfl,v1,hm⟩;go_wp2_with fail
  go_end0
  exact⟨rfl,v1,hm⟩
 ·have HQ:acs (Calls Tryz.prog 97 #[ptr x,.int .i64 1] w (qZ B w x v (bs++ql true))):=Ab.o;go_enter Tryz.func168,Tryz.ntmps168;go_wp2_with fail;refine HQ.o.mono ?_;rintro e w1 ⟨rfl,v1,hm⟩;go_wp2_with fail
  (try simp only[Exit.inBlock,Exit.then])
  refine aaB (results_none rfl _ _ _) rfl ?_;exact⟨rfl,v1,hm⟩
theorem LJ{u1:World}(h:dB B w x v bs)(hg:w.grownBy u1 v.ownBlock):u1.cell? ⟨x,0,none⟩=some v∧u1.frozen? ⟨x,0,none⟩=false:=by
 have Xl:=(hg.block x h.lt (fun e=>h.apart e.symm)).trans h.head;exact⟨by simp[World.cell?,Xl],by simp[World.frozen?,Xl]⟩
theorem Cm{S:Nat→Prop}(h:dB B w x v bs)(a:Option Addr)(m c:Nat)(l:List UInt8)(hr:ah S w a m (l.map bv))(hl:bs.length≤100000000)(hm:m≤100000000):Calls Tryz.prog 65 #[ptr x,.slice a m c] w (qZ B w x v (bs++l)):=by
 obtain⟨i8,hi⟩:∃i,Tryz.prog.info? 5=some i∧i.zero=some (.int .u8 0)∧i.size=1∧i.bytes=1:=aam (by kernel_rfl);have HI:=acr hi;have HW:=acr h;have HR:=acr hr;have c0:=h.cell;have f0:=h.frozen;have hBw:B≤w.heap.size:=Nat.le_of_lt (Nat.lt_of_le_of_lt h.low h.lt);have hlm:l.length=m:=by simpa using hr.length
 have HLM:=acr hlm;clear h hi hr hlm;obtain⟨N,hN⟩:∃N,N=bs.length:=⟨_,rfl⟩;have HOW:acs (w.ownsRow B 5 1 v N (bs.map bv)):=by rw[hN];exact HW.o.own
 have pq:=acr hN;rw[←hN]at hl;clear hN;have hxw:=HW.o.lt;go_enter Tryz.func65,Tryz.ntmps65;go_wp2_with (at_builtin;refine aQ rfl _ _ 28 rfl B 5 i8 _ 1 Tryz.underlying28 HI.o.1 HI.o.2.1 HI.o.2.2.1 HI.o.2.2.2 rfl v N (bs.map bv) rfl HOW.o a m c (l.map bv) rfl HR.o (dV l) (by unfold maxLen;omega) (by omega) hBw ?_;intro A1 c1 u1 hown1 hg1 _ uQ;have Xl:=LJ HW.o hg1;have hcx:=Xl.1;have hfx:=Xl.2;clear Xl)
 go_end0
 refine⟨rfl,_,Oc (wa:=w) HW.o acv ?_ hg1 uQ⟩;have h9:(bs++l).length=N+m:=by rw[List.length_append,←pq.o,HLM.o]
 rw[h9,List.map_append];exact hown1
theorem yS{S:Nat→Prop}(h:dB B w x v bs)(a:Option Addr)(m c:Nat)(l:List UInt8)(hr:ah S w a m (l.map bv))(hS:∀b,S b→b≠x∧v.ownBlock≠some b)(hc:m≤c)(hl:bs.length≤90000000)(hm:m≤65535):Calls Tryz.prog 91 #[ptr x,.slice a m c] w (qZ B w x v (bs++(eB m 2++l))):=by
 have HS:=acr (nJ h (m:Int) (by omega) (by omega) (by omega));have HW:=acr h;have HRR:=acr hr;have HSS:=acr hS;have e1:min (m:Int) 65535=(m:Int):=by omega
 have h0:(0:Int)≤(m:Int):=by omega
 have h1:(m:Int)≤(c:Int):=by omega
 clear h hr hS;go_enter Tryz.func91,Tryz.ntmps91;go_wp2_with fail;refine HS.o.mono ?_;rintro e w1 ⟨rfl,v1,hm1⟩;have HM:=acr hm1;have hr1:ah S w1 a m (l.map bv):=HRR.o.kept hm1.2.1.size fun b hb hbw=>hm1.2.1.block b hbw fun hf=>by
  rcases hf with h4|h4
  ·exact(HSS.o b hb).1 h4
  ·exact(HSS.o b hb).2 h4
 have HRW:=acr (Cm hm1.1 a m c l hr1 (by rw[List.length_append];have:(eB (m:Int) 2).length=2:=rfl;omega) (by omega));clear hm1 hr1;go_wp2_with fail;refine HRW.o.mono ?_;rintro e w2 ⟨rfl,v2,hm2⟩;go_wp2_with fail
 go_end0
 refine⟨rfl,v2,?_⟩;have:=HM.o.trans hm2;rw[TK]at this;exact this
theorem Dj(h:dB B w x v bs)(hl:bs.length≤100000000):Calls Tryz.prog 66 #[ptr x] w (z_ w bs):=by
 obtain⟨a,c,rfl,hc⟩:=fM h.own;obtain⟨_,hr⟩:=ah.mR h.own;have HC:=acr (LC a bs.length c bs w (by omega) hr);have c0:=h.cell;clear h hr;go_enter Tryz.func66,Tryz.ntmps66;go_wp2_with fail;refine HC.o.mono ?_;rintro e w1 ⟨a1,n1,c1,rfl,hn1,hr1,hb1⟩;go_wp2_with fail;go_ret;exact⟨a1,n1,c1,rfl,hn1,hr1,hb1⟩
theorem Tx(h:dB B w x v bs)(hl:bs.length≤100000000)(h0:0<bs.length):Calls Tryz.prog 66 #[ptr x] w (fB w bs):=by
 obtain⟨a,c,rfl,hc⟩:=fM h.own;obtain⟨_,hr⟩:=ah.mR h.own;have HC:=acr (Jd a bs.length c bs w h0 (by omega) hr);have c0:=h.cell;clear h hr;go_enter Tryz.func66,Tryz.ntmps66;go_wp2_with fail;refine HC.o.mono ?_;rintro e w1 ⟨a1,c1,rfl,hr1,hb1⟩;go_wp2_with fail;go_ret;exact⟨a1,c1,rfl,hr1,hb1⟩
end
theorem LK(k:Int)(x:bJ)(h1:Lr x)(hk:0≤k)(hk':k≤65535)(w:World):Calls Tryz.prog 167 #[kE k x] w fun e w'=>e= .returned (.bool true)∧Below w.heap.size w w':=by
 obtain⟨l0,l1⟩:=h1.links;obtain⟨t0,t1⟩:=h1.aF;have hb:=h1.size;obtain⟨n,hn⟩:∃n,n=x.b.length:=⟨_,rfl⟩;rw[←hn]at hb;have d1:decide (k<0)=false:=by simpa using hk
 have d2:decide (65535<k)=false:=by simpa using hk'
 have d3:decide (x.links<0)=false:=by simpa using l0
 have d4:decide (65535<x.links)=false:=by simp;omega
 have d5:decide ((n:Int)≤4096)=true:=by simp;omega
 have d6:decide (x.aF≤1099511627776)=true:=by simpa using t1
 have d7:decide ((0:Int)≤(n:Int))=true:=by simp
 unfold kE;rw[←hn];by_cases hk2:x.kind=2
 ·obtain⟨_,hcl,hbn,htl⟩:=h1.dir hk2;have hn0:n=0:=by rw[hn,hbn];rfl
  subst hn0;rw[hk2,hcl,htl];clear hn h1 hk2 hcl hbn htl d6;go_enter abA,abp;go_wp2
  all_goals (first|(go_ret;exact⟨rfl,wall w _⟩)|((try simp only[Exit.inBlock,Exit.then]);refine aaB (by rfl) rfl ?_;exact⟨rfl,wall w _⟩))
 ·have hk1:=h1.kind.resolve_right hk2;rw[hk1];clear hn h1 hk2 hk1;go_enter abA,abp;go_wp2
  all_goals (first|(go_ret;exact⟨rfl,wall w _⟩)|((try simp only[Exit.inBlock,Exit.then]);refine aaB (by rfl) rfl ?_;exact⟨rfl,wall w _⟩))
def rJ(k:Int)(x:bJ):List UInt8:=eB k 2++eB x.kind 1++eB x.links 2++eB x.b.length 2++eB x.aF 8++ql x.closed
theorem bB(n:Int):∀s,(eB n s).length=s
 |0=>rfl
 |s+1=>by unfold eB;rw[List.length_cons,bB n s]
theorem kY(k:Int)(x:bJ):(rJ k x).length=16:=by
 unfold rJ ql;simp only[List.length_append,bB]
theorem LM(k:Int)(x:bJ)(h1:Lr x)(hk:0≤k)(hk':k≤65535)(w:World):Calls Tryz.prog 90 #[kE k x] w fun e w'=>∃a n c,e= .returned (.tuple #[.slice a n c,.int .i64 0])∧n≤c∧ah (fun b=>w.heap.size≤b∧b<w'.heap.size) w' a n ((rJ k x).map bv)∧Below w.heap.size w w':=by
 have HR:=acr (fun w'=>LK k x h1 hk hk' w');obtain⟨l0,l1⟩:=h1.links;obtain⟨t0,t1⟩:=h1.aF;have hb:=h1.size;have hkd:0≤x.kind∧x.kind≤2:=by rcases h1.kind with h|h<;>omega
 obtain⟨kd0,kd1⟩:=hkd;unfold rJ;obtain⟨n,hn⟩:∃n:Nat,n=x.b.length:=⟨_,rfl⟩;rw[←hn]at hb;unfold kE at HR⊢;rw[←hn]at HR⊢;clear h1 hn;go_enter Tryz.func90,Tryz.ntmps90;go_wp2_with fail;refine(HR.o _).mono ?_;rintro e w1 ⟨rfl,hb1⟩;have hsa:(w.alloc (.cells #[.int .i64 k,.int .i64 x.kind,.int .i64 x.links,.int .i64 n,.int .u64 x.aF,.bool x.closed] 39)).heap.size=w.heap.size+1:=by simp
 have hs1:=hb1.size;have HQ:acs (∀w',Below w1.heap.size w1 w'→∀j,w'.cell? ⟨w.heap.size,j,none⟩=(#[.int .i64 k,.int .i64 x.kind,.int .i64 x.links,.int .i64 n,.int .u64 x.aF,.bool x.closed]:Array Value)[j]?):=fun w' hb j=>by
  rw[hb.cell (p:=⟨w.heap.size,j,none⟩) (by simp only;omega),hb1.cell (p:=⟨w.heap.size,j,none⟩) (by simp)];exact dD (MapKept.heap_alloc w _).1 j
 have HB1:=acr ((wall w (.cells #[.int .i64 k,.int .i64 x.kind,.int .i64 x.links,.int .i64 n,.int .u64 x.aF,.bool x.closed] 39)).trans (hb1.mono (by omega)));clear hb1 HR;go_wp2_with fail;refine(nU w1).mono ?_;rintro e w2 ⟨rfl,hW2,hb2⟩;have HW2:=acr hW2;have HB2:=acr hb2;clear hW2 hb2;have q0:w2.cell? ⟨w.heap.size,0,none⟩=some (.int .i64 k):=HQ.o _ HB2.o 0;have HS0:=acr (nJ HW2.o k (by omega) (by omega) (by simp only[List.length_append,List.length_nil,bB];omega));go_wp2_with fail;refine HS0.o.mono ?_;rintro e w3 ⟨rfl,v3,Jl⟩;have HW3:=acr Jl.1;have HB3:=acr (HB2.o.trans (Jl.low HW2.o));clear q0 Jl HS0 HW2 HB2;have q1:w3.cell? ⟨w.heap.size,1,none⟩=some (.int .i64 x.kind):=HQ.o _ HB3.o 1;have ko:=acr (yR HW3.o x.kind (by omega) (by omega) (by simp only[List.length_append,List.length_nil,bB];omega));go_wp2_with fail;refine ko.o.mono ?_;rintro e w4 ⟨rfl,v4,Jm⟩;have Qb:=acr Jm.1;have eT:=acr (HB3.o.trans (Jm.low HW3.o));clear q1 Jm ko HW3 HB3;have q2:w4.cell? ⟨w.heap.size,2,none⟩=some (.int .i64 x.links):=HQ.o _ eT.o 2;have HS2:=acr (nJ Qb.o x.links (by omega) (by omega) (by simp only[List.length_append,List.length_nil,bB];omega));go_wp2_with fail;refine HS2.o.mono ?_;rintro e w5 ⟨rfl,v5,LP⟩;have WL:=acr LP.1;have iB:=acr (eT.o.trans (LP.low Qb.o));clear q2 LP HS2 Qb eT;have q3:w5.cell? ⟨w.heap.size,3,none⟩=some (.int .i64 n):=HQ.o _ iB.o 3;have Bb:=acr (nJ WL.o (n:Int) (by omega) (by omega) (by simp only[List.length_append,List.length_nil,bB];omega));go_wp2_with fail;refine Bb.o.mono ?_;rintro e w6 ⟨rfl,v6,Tz⟩;have Xm:=acr Tz.1;have sV:=acr (iB.o.trans (Tz.low WL.o));clear q3 Tz Bb WL iB;have q4:w6.cell? ⟨w.heap.size,4,none⟩=some (.int .u64 x.aF):=HQ.o _ sV.o 4;have qM:=acr (rW Xm.o x.aF (by omega) (by omega) (by simp only[List.length_append,List.length_nil,bB];omega));go_wp2_with fail;refine qM.o.mono ?_;rintro e w7 ⟨rfl,v7,TA⟩;have SC:=acr TA.1;have Cn:=acr (sV.o.trans (TA.low Xm.o));clear q4 TA qM Xm sV;have q5:w7.cell? ⟨w.heap.size,5,none⟩=some (.bool x.closed):=HQ.o _ Cn.o 5;have eU:=acr (Tw SC.o x.closed (by simp only[List.length_append,List.length_nil,bB];omega));go_wp2_with fail;refine eU.o.mono ?_;rintro e w8 ⟨rfl,v8,IL⟩;have HW8:=acr IL.1;have uR:=acr (Cn.o.trans (IL.low SC.o));clear q5 IL eU SC Cn;have HD:=acr (Dj HW8.o (by simp only[List.length_append,List.length_nil,bB,ql];omega));go_wp2_with fail;refine HD.o.mono ?_;rintro e w9 ⟨a9,n9,c9,rfl,hc9,hr9,eH⟩;have gQ:=acr hr9;have Dk:=acr (uR.o.trans (eH.mono uR.o.size));have BL:=uR.o.size;have hc9':=hc9;clear hr9 eH HD;go_wp2_with fail
 go_ret2
 refine⟨a9,n9,c9,rfl,hc9',?_,HB1.o.trans (Dk.o.mono HB1.o.size)⟩;have h9:=gQ.o.mono (S':=fun b=>w.heap.size≤b∧b<w9.heap.size) fun b hb=>⟨by have:=HB1.o.size;omega,hb.2⟩;simpa using h9
theorem iG(T:aA):∀(p q:List Nm) (a:Int),aG T a (p++q)=if (aG T a p).2=0 then aG T (aG T a p).1 q else aG T a p
 |[],q,a=>by simp[aG]
 |n::r,q,a=>by
  rcases Option.eq_none_or_eq_some (aj a T)with hx|⟨x,hx⟩
  ·simp[aG,hx]
  ·by_cases hk:x.kind=2
   ·rcases Option.eq_none_or_eq_some (aj n x.names)with hn|⟨k,hn⟩
    ·simp[aG,hx,hk,hn]
    ·simp only[ab7,aG,hx,if_pos hk,hn];exact iG T r q k
   ·simp[aG,hx,hk]
theorem dH{T:aA}{p:List Nm}{id:Int}(h:aG T 0 p=(id,0))(hp:p≠[]):∃d x n,aH T p=(d,n,0)∧aG T 0 p.dropLast=(d,0)∧aj d T=some x∧x.kind=2∧aj n x.names=some id∧n∈p∧p=p.dropLast++[n]:=by
 obtain⟨q,n,rfl⟩:∃q n,p=q++[n]:=⟨p.dropLast,p.getLast hp,(List.dropLast_concat_getLast hp).symm⟩;rw[iG]at h;have hd:(q++[n]).dropLast=q:=by simp
 have hl:(q++[n]).getLastD []=n:=by simp[abM]
 by_cases he:(aG T 0 q).2=0
 ·rw[if_pos he]at h;obtain⟨⟨d,e0⟩,hq⟩:∃r,r=aG T 0 q:=⟨_,rfl⟩;rw[←hq]at h he;simp only at he;subst he;simp only[aG]at h;cases hx:aj d T with
  |none=>rw[hx]at h;cases h
  |some x=>
   rw[hx]at h;simp only at h;by_cases hk:x.kind=2
   ·rw[if_pos hk]at h;cases hn:aj n x.names with
    |none=>rw[hn]at h;cases h
    |some k=>
     rw[hn]at h;simp only[abB,aaI]at h;subst h;refine⟨d,x,n,?_,by rw[hd,←hq],hx,hk,hn,by simp,by rw[hd]⟩;unfold aH;rw[if_neg hp,hd,hl,←hq,if_neg (by simp),if_pos ((dh hx).trans hk)]
   ·rw[if_neg hk]at h;cases h
 ·rw[if_neg he]at h;rw[h]at he;exact absurd rfl he
theorem TB{α:Type}{κ:Type}[DecidableEq κ]{lt:κ→κ→Bool}(L:oF lt)(P:κ×α→Bool){l:List (κ×α)}(hs:aI lt l){k:κ}{v:α}(hg:aj k l=some v):(bP k l).countP P+(if P (k,v)then 1 else 0)=l.countP P:=by
 induction l with
 |nil=>cases hg
 |cons y r ih=>
  have hp:=hs.apart L;obtain⟨h1,h2⟩:=aal.1 hp;rw[fF]at hg;have hcons:bP k (y::r)=if y.1=k then bP k r else y::bP k r:=by
   unfold bP;rw[List.filter_cons];by_cases hy:y.1=k<;>simp[hy]
  rw[hcons];by_cases hy:y.1=k
  ·rw[if_pos hy]at hg;rw[if_pos hy];cases hg;have hr:bP k r=r:=by
    unfold bP;rw[aa0];intro q hq;have:=h1 q hq;simp only[Bool.not_eq_true',aa8];exact fun e=>this (hy.trans e.symm)
   have e:(k,y.2)=y:=by rw[←hy]
   rw[hr,abf,e]
  ·rw[if_neg hy]at hg;rw[if_neg hy,abf,abf];have:=ih (aal.1 hs).2 hg;omega
theorem cn_cut{x:bJ}(h:Lr x){n:Nm}{id:Int}(hn:aj n x.names=some id)(k:Int):cn k {x with names:=bP n x.names}+(if id=k then 1 else 0)=cn k x:=by
 have:=TB uO (fun e:Nm×Int=>decide (e.2=k)) h.sorted hn;unfold cn;simp only[aah]at this;exact this
theorem Xn{x:bJ}(h:Lp x)(n:Nm)(hk:x.kind=2):Lp {x with names:=bP n x.names}:=by
 refine⟨h.kind,fun h1=> ?_,h.dir,h.gone,h.sorted.bP _,fun e he=>h.good e (aar.1 he).1,h.size,h.links,h.aF⟩;have:x.kind=1:=h1;omega
theorem wP.cut{T:aA}(h:wP T){d:Int}{x:bJ}{n:Nm}(hx:aj d T=some x)(hk:x.kind=2):wP (aK T d n):=
 h.bC hx (Xn (h.each d x hx) n hk) rfl (fun e he=>h.leads d x hx e (aar.1 he).1)
theorem CV.del{T:aA}(h:CV T){k:Int}{x:bJ}(hx:aj k T=some x)(h0:k≠0)(hc:fV T k=0):CV (bP k T):=by
 have hget:∀j y,aj j (bP k T)=some y→j≠k∧aj j T=some y:=fun j y hy=>by
  rw[eP]at hy;by_cases hj:j=k
  ·rw[if_pos hj]at hy;cases hy
  ·rw[if_neg hj]at hy;exact⟨hj,hy⟩
 refine⟨h.sorted.bP _,?_,fun j y hy=>h.each j y (hget j y hy).2,fun j y hy e he=> ?_,?_,fun j y hy=>h.ids j y (hget j y hy).2⟩
 ·have hr:=h.root;unfold bI at hr⊢;rw[eP,if_neg (aaT h0)];exact hr
 ·have h1:=h.leads j y (hget j y hy).2 e he;have h2:=Ch hc (hget j y hy).2 e he;rw[eP,if_neg h2];exact h1
 ·have:=u_ bY h.sorted hx;have:=h.len;omega
theorem wP.del{T:aA}(h:wP T){k:Int}{x:bJ}(hx:aj k T=some x)(h0:k≠0)(hc:fV T k=0):wP (bP k T):=
 wP.of_w (h.w.del hx h0 hc) fun j y hy=>by
  rw[eP]at hy;by_cases hj:j=k
  ·rw[if_pos hj]at hy;cases hy
  ·rw[if_neg hj]at hy;exact(h.each j y hy).links.2
theorem rX{T:aA}(h:CV T){d id:Int}{x:bJ}{n:Nm}(hx:aj d T=some x)(hn:aj n x.names=some id)(j:Int):fV (aK T d n) j+(if id=j then 1 else 0)=fV T j:=by
 have h1:=nH h.sorted (fun x=>{x with names:=bP n x.names}) hx j;have h2:=cn_cut (h.each d x hx) hn j;unfold aK;omega
theorem G8{T:aA}{d j:Int}{n:Nm}{y:bJ}(hy:aj j (aK T d n)=some y):∃z,aj j T=some z∧y.links=z.links∧y.kind=z.kind∧y.closed=z.closed∧y.b=z.b∧(j≠d→y=z):=by
 unfold aK at hy;rw[bf]at hy;by_cases hj:j=d
 ·rw[if_pos hj]at hy;cases hz:aj j T with
  |none=>rw[hz]at hy;cases hy
  |some z=>
   rw[hz]at hy;simp only[aao,Pd]at hy;subst hy;exact⟨z,rfl,rfl,rfl,rfl,rfl,fun h=>absurd hj h⟩
 ·rw[if_neg hj]at hy;exact⟨y,hy,rfl,rfl,rfl,rfl,fun _=>rfl⟩
theorem dZ.Od{T:aA}(h:dZ T){d id:Int}{x y:bJ}{n:Nm}(hx:aj d T=some x)(hk:x.kind=2)(hn:aj n x.names=some id)(hy:aj id T=some y)(hid:id≠d)(h0:id≠0)(hyn:y.names=[])(hl:y.links=1):dZ (bP id (aK T d n)):=by
 have hP:=h.towP.cut (n:=n) hx hk;have hy1:aj id (aK T d n)=some y:=by unfold aK;rw[bf,if_neg hid];exact hy
 have hc:=h.counts id y hy h0;have h1:=rX h.towP hx hn id;rw[if_pos rfl]at h1;refine⟨hP.del hy1 h0 (by omega),fun j z hz hj=> ?_⟩;have hji:j≠id:=fun e=>by subst e;rw[pY]at hz;cases hz
 rw[eP,if_neg hji]at hz;obtain⟨z',hz',hl',_⟩:=G8 hz;have h2:=rX h.towP hx hn j;rw[if_neg (aaT hji)]at h2;have h3:=zW hP.sorted hy1 j;have h4:cn j y=0:=by unfold cn;rw[hyn];rfl
 have:=h.counts j z' hz' hj;omega
theorem dZ.TD{T:aA}(h:dZ T){d id:Int}{x y:bJ}{n:Nm}(hx:aj d T=some x)(hk:x.kind=2)(hn:aj n x.names=some id)(hy:aj id T=some y)(hyk:y.kind≠2):
  dZ (gY (Go.Proofs.YtjnhnlabpccgjaaGreatDoor.bC id (fun x=>{x with links:=x.links-1}) (aK T d n)) id):=by
 have hoy:=h.each id y hy;have h0:=h.yO hy hyk;have hid:id≠d:=fun e=>by subst e;rw[hx]at hy;cases hy;exact hyk hk
 have hk1:=hoy.kind.resolve_right hyk;have hyn:=hoy.file hk1;have hP:=h.towP.cut (n:=n) hx hk;have hy1:aj id (aK T d n)=some y:=by unfold aK;rw[bf,if_neg hid];exact hy
 have hg:aj id (Go.Proofs.YtjnhnlabpccgjaaGreatDoor.bC id (fun x=>{x with links:=x.links-1}) (aK T d n))=some {y with links:=y.links-1}:=by rw[bf,if_pos rfl,hy1];rfl
 have hcy:=h.counts id y hy h0;have h1:=rX h.towP hx hn id;rw[if_pos rfl]at h1;unfold gY;rw[hg];simp only;by_cases hc:y.links-1=0∧y.closed=true
 ·rw[if_pos hc];have e:bP id (Go.Proofs.YtjnhnlabpccgjaaGreatDoor.bC id (fun x=>{x with links:=x.links-1}) (aK T d n))=bP id (aK T d n):=by
   generalize aK T d n=L;unfold bP Go.Proofs.YtjnhnlabpccgjaaGreatDoor.bC
   induction L with
   |nil=>rfl
   |cons y r ih=>
    rw[List.map_cons,List.filter_cons,List.filter_cons,ih];by_cases hy:y.1=id<;>simp[hy]
  rw[e];exact h.Od hx hk hn hy hid h0 hyn (by omega)
 ·rw[if_neg hc];refine⟨hP.bC (f:=fun x=>{x with links:=x.links-1}) hy1 ⟨hoy.kind,hoy.file,fun h=>absurd h hyk,fun h=> ?_,hoy.sorted,hoy.good,hoy.size,?_,hoy.aF⟩ rfl (hP.leads id y hy1),fun j z hz hj=> ?_⟩
  ·cases hcl:y.closed with
   |true=>exact absurd ⟨h,hcl⟩ hc
   |false=>rfl
  ·have:=hoy.links;simp only;omega
  ·have h3:=nH hP.sorted (fun x=>{x with links:=x.links-1}) hy1 j;have h3':cn j {y with links:=y.links-1}=cn j y:=rfl;have h4:=rX h.towP hx hn j;rw[bf]at hz;by_cases hji:j=id
   ·subst hji;rw[if_pos rfl,hy1]at hz;simp only[aao,Pd]at hz;rw[if_pos rfl]at h4;rw[←hz];simp only;omega
   ·rw[if_neg hji]at hz;rw[if_neg (aaT hji)]at h4;obtain⟨z',hz',hl',_⟩:=G8 hz;have:=h.counts j z' hz' hj;omega
theorem G9{T:aA}{p:List Nm}(h:jk T p=0):bH p=0∧(aG T 0 p).2=0∧bI T (aG T 0 p).1≠2:=by
 unfold jk aY at h;by_cases h1:bH p≠0
 ·rw[if_pos h1]at h;simp only[if_pos h1]at h;exact absurd h h1
 ·rw[if_neg h1]at h;by_cases h2:(aG T 0 p).2≠0
  ·rw[if_pos h2]at h;exact absurd h h2
  ·rw[if_neg h2]at h;by_cases h3:bI T (aG T 0 p).1=2
   ·rw[if_pos h3]at h;cases h
   ·exact⟨by omega,by omega,h3⟩
theorem dZ.bL{T:aA}(h:dZ T)(p:List Nm):dZ (bL T p).2:=by
 unfold Go.Proofs.YtjnhnlabpccgjaaGreatDoor.bL;by_cases he:jk T p=0
 ·simp only[if_pos he];obtain⟨h1,h2,h3⟩:=G9 he;obtain⟨y,hy⟩:=aaf.1 (gq h p 0 (fD h) h2);have hp:p≠[]:=fun e=>by subst e;exact h3 h.root
  obtain⟨d,x,n,e1,_,hx,hk,hn,_⟩:=dH (id:=(aG T 0 p).1) (aaE rfl h2) hp;rw[dh hy]at h3;unfold rU;rw[e1];exact h.TD hx hk hn hy h3
 ·simp only[if_neg he];exact h
theorem Jo{T:aA}{p:List Nm}(h:sQ T p=0):bH p=0∧(aG T 0 p).2=0∧bI T (aG T 0 p).1=2∧(aG T 0 p).1≠0∧aU T (aG T 0 p).1=[]:=by
 unfold sQ aY at h;by_cases h1:bH p≠0
 ·rw[if_pos h1]at h;simp only[if_pos h1]at h;exact absurd h h1
 ·rw[if_neg h1]at h;by_cases h2:(aG T 0 p).2≠0
  ·rw[if_pos h2]at h;exact absurd h h2
  ·rw[if_neg h2]at h;by_cases h3:bI T (aG T 0 p).1≠2
   ·rw[if_pos h3]at h;cases h
   ·rw[if_neg h3]at h;by_cases h4:(aG T 0 p).1=0
    ·rw[if_pos h4]at h;cases h
    ·rw[if_neg h4]at h;by_cases h5:0<(aU T (aG T 0 p).1).length
     ·rw[if_pos h5]at h;cases h
     ·exact⟨by omega,by omega,by omega,h4,aad (by omega)⟩
theorem dZ.iC{T:aA}(h:dZ T)(p:List Nm):dZ (iC T p).2:=by
 unfold Go.Proofs.YtjnhnlabpccgjaaGreatDoor.iC;by_cases he:sQ T p=0
 ·simp only[if_pos he];obtain⟨h1,h2,h3,h4,h5⟩:=Jo he;obtain⟨y,hy⟩:=aaf.1 (gq h p 0 (fD h) h2);have hp:p≠[]:=fun e=>by subst e;exact h4 rfl
  obtain⟨d,x,n,e1,_,hx,hk,hn,_⟩:=dH (id:=(aG T 0 p).1) (aaE rfl h2) hp;have hyn:y.names=[]:=by unfold aU at h5;rw[hy]at h5;exact h5
  rw[dh hy]at h3;unfold Cg;rw[e1];refine h.Od hx hk hn hy (fun e=> ?_) h4 hyn ((h.each _ y hy).dir h3).1;rw[e,hx]at hy;cases hy;rw[hyn]at hn;cases hn
 ·simp only[if_neg he];exact h
section
variable{g:Nat→Own}{D:Nat→Prop}{p mb:Nat}{ib nb:Int→Nat}{T:aA}
theorem Xo{S:Nat→Prop}(a:Option Addr)(n c:Nat)(ls:List Nm)(w:World)(h:aP g D w p mb ib nb T)(hT:OkW T)(hS:aT S w a n (ls.map strOf)):
  Calls Tryz.prog 142 #[ptr p,.slice a n c] w fun e w'=>e= .returned (.tuple #[.int .i64 (aY T ls).1,.int .i64 (aY T ls).2])∧Below w.heap.size w w':=by
 have HF:=acr (C9 (S:=S) a n c ls w hS);have qP:=acr (fun w1 (hb:Below w.heap.size w w1)=>C8 a n c ls w1 (h.below hb acu) hT (hS.below hb acu));clear h hT hS;by_cases hf:bH ls=0
 ·have HE:acs (aY T ls=aG T 0 ls):=by unfold aY;rw[if_neg (by rw[hf];simp)];exact rfl
  rw[hf]at HF;clear hf;go_enter Tryz.func142,Tryz.ntmps142;go_wp2_with fail;refine HF.o.mono ?_;rintro e w1 ⟨rfl,hb1⟩;have HB1:=acr hb1;clear hb1;go_wp2_with fail;refine(qP.o w1 HB1.o).mono ?_;rintro e w2 ⟨rfl,rfl⟩;go_wp2_with fail
  go_ret2
  rw[HE.o];exact⟨rfl,HB1.o⟩
 ·have HE:acs (aY T ls=(0,bH ls)):=by unfold aY;rw[if_pos hf];exact rfl
  have hne:(bH ls==0)=false:=by simpa using hf
  have hne2:(bH ls !=0)=true:=by simpa using hf
  clear hf;go_enter Tryz.func142,Tryz.ntmps142;go_wp2_with fail;refine HF.o.mono ?_;rintro e w1 ⟨rfl,hb1⟩;have HB1:=acr hb1;clear hb1;go_wp2_with fail
  go_ret2
  rw[HE.o];exact⟨rfl,HB1.o⟩
theorem TF{S:Nat→Prop}{d:Int}{nm:Nm}(a:Option Addr)(n c:Nat)(ls:List Nm)(w:World)(h:aP g D w p mb ib nb T)(hT:dZ T)(hS:aT S w a n (ls.map strOf))(hc:n≤c)(mQ:n≤1000000)(hp:aH T ls=(d,nm,0)):
  Calls Tryz.prog 140 #[ptr p,.slice a n c] w fun e w'=>e= .returned (.tuple #[ptr (ib d),.string (strOf nm),.int .i64 0])∧Below w.heap.size w w':=by
 have:=FJ a n c ls w h hT hS hc mQ;unfold yJ at this;rw[hp]at this;exact this
theorem Qc{w:World}{d:Int}{x:bJ}(h:aP g D w p mb ib nb T)(hx:aj d T=some x)(hk:x.kind=2):w.cell? ⟨ib d,7,none⟩=some (.map (some (nb d)))∧MapAt iq w (nb d) (fA x):=by
 have hi:=h.item d x hx;obtain⟨_,_,_,_,_,_,c7,_⟩:=hi.cell;unfold fu at c7;rw[if_pos hk]at c7;exact⟨c7,hi.names hk⟩
theorem okNm{nm:Nm}(h:bT nm=true):iq.ok nm:=by
 have:=yK nm h;show nm.length≤maxLen;unfold maxLen;omega
theorem cut_at{w w':World}{d:Int}{x:bJ}{n:Nm}(h:aP g D w p mb ib nb T)(hx:aj d T=some x)(hk:x.kind=2)(hM:MapAt iq w' (nb d) (bP n (fA x)))(hT:w.mapTurned w' (nb d)):aP g D w' p mb ib nb (aK T d n)∧Keeps (fun b=>g b≠ .none) w w':=
 ⟨h.cut hx hk hM hT,(iF hT).mono fun b _ hb=>by rw[show b=nb d from hb,h.nG d x hx hk];simp⟩
theorem lW{w w':World}{fp:Nat→Prop}(hb:Below w.heap.size w w'):Keeps fp w w':=(Keeps.below hb).mono fun b hb hb'=>absurd hb (by omega)
theorem Qd{S:Nat→Prop}(a:Option Addr)(n c:Nat)(ls:List Nm)(w:World)(h:aP g D w p mb ib nb T)(hT:dZ T)(hS:aT S w a n (ls.map strOf))(hc:n≤c)(mQ:n≤1000000):
  Calls Tryz.prog 152 #[ptr p,.slice a n c] w (Turn g D w p mb (bL T ls).2 (.int .i64 (bL T ls).1)):=by
 have HH:=acr h;have HT:=acr hT;have HS:=acr hS;have HF:=acr (C9 (S:=S) a n c ls w hS);have qP:=acr (fun w1 (hb:Below w.heap.size w w1)=>C8 a n c ls w1 (h.below hb acu) hT (hS.below hb acu));clear h hT hS;by_cases hf:bH ls=0
 ·have E5:=acr hf;rw[hf]at HF;clear hf;have FN:acs (aY T ls=aG T 0 ls):=by unfold aY;rw[if_neg (by rw[E5.o];simp)];exact rfl
  obtain⟨⟨id,e0⟩,hq⟩:∃q,q=aG T 0 ls:=⟨_,rfl⟩;have HQ:=acr hq;rw[←hq]at qP FN;clear hq;by_cases he:e0=0
  ·subst he;obtain⟨y,hy⟩:=aaf.1 (Dc HQ.o.symm HT.o);have HY:=acr hy;have xD:=HT.o.ids id y hy;have hok:bK.ok id:=kD xD.1 (by omega);have HG:acs (aj id (T.map fun q=>(q.1,ptr (ib q.1)))=some (ptr (ib id))):=by rw[eX,hy];rfl
   have HIT:acs (∀w1,Below w.heap.size w w1→w1.cell? ⟨p,0,none⟩=some (.map (some mb))∧MapAt bK w1 mb (T.map fun q=>(q.1,ptr (ib q.1)))∧w1.cell? ⟨ib id,1,none⟩=some (.int .i64 y.kind)):=fun w1 hb=>by
    have h2:=HH.o.below hb acu;obtain⟨_,c1,c2,_⟩:=(h2.item id y HY.o).cell;exact⟨h2.cell.1,h2.map,c1⟩
   clear hy;by_cases hk:y.kind=2
   ·have HM:acs (bL T ls=(22,T)):=by
     have:jk T ls=22:=by
      unfold jk;rw[FN.o,←HQ.o,if_neg (by simp),if_pos ((dh HY.o).trans hk)]
     unfold bL;rw[this]<;>exact rfl
    go_enter Tryz.func152,Tryz.ntmps152;go_wp2_with fail;refine HF.o.mono ?_;rintro e w1 ⟨rfl,hb1⟩;have HB1:=acr hb1;clear hb1;go_wp2_with fail;refine(qP.o w1 HB1.o).mono ?_;rintro e w2 ⟨rfl,rfl⟩;obtain⟨c0,hmap,c1⟩:=HIT.o w1 HB1.o;rw[hk]at c1;have n_:=acr hmap;clear hmap;go_wp2_with (first|(at_lookup;refine dJ bK rfl _ _ 104 102 rfl Tryz.underlying104 (Tryz.dP _) rfl n_.o id rfl hok ?_;rw[HG.o]));go_ret;rw[HM.o];exact Turn.same HH.o HB1.o rfl
   ·have hkk:(y.kind==2)=false:=by simpa using hk
    have hp:ls≠[]:=fun e=>by
     have h1:id=0:=aaF Prod.fst (HQ.o.trans (by rw[e]<;>exact(rfl:aG T 0 []=(0,0))));have:=HT.o.root;rw[←h1,dh HY.o]at this;exact hk this
    obtain⟨d,x,nm,e1,-,hx,hxk,hn,hmem,-⟩:=dH HQ.o.symm hp;have SA:=acr (qh E5.o _ hmem);have GZ:=okNm SA.o;have HM:acs (bL T ls=(0,gY (bC id (fun x=>{x with links:=x.links-1}) (aK T d nm)) id)):=by
     have:jk T ls=0:=by
      unfold jk;rw[FN.o,←HQ.o,if_neg (by simp),if_neg (by rw[dh HY.o];exact hk)]
     unfold bL rU;rw[this,←HQ.o,e1];exact rfl
    have G5:=acr (fun w1 (hb:Below w.heap.size w w1)=>TF a n c ls w1 (HH.o.below hb acu) HT.o (HS.o.below hb acu) hc mQ e1);have HX:=acr hx;have Zu:=acr hxk;have hdi:id≠d:=fun e=>by subst e;rw[HY.o]at hx;cases hx;exact hk hxk
    have Jp:=acr hdi;have C_:=acr (fun w2 (hb:Below w.heap.size w w2)=>Qc (HH.o.below hb acu) hx hxk);have HWID:acs ((Lit.int .i64 id).wf=true):=hok;have hln:=(HT.o.each id y HY.o).links;clear hk hp e1 hx hxk hn hmem hdi;go_enter Tryz.func152,Tryz.ntmps152;go_wp2_with fail;refine HF.o.mono ?_;rintro e w1 ⟨rfl,hb1⟩;have HB1:=acr hb1;clear hb1;go_wp2_with fail;refine(qP.o w1 HB1.o).mono ?_;rintro e w2 ⟨rfl,rfl⟩;obtain⟨c0,hmap,c1⟩:=HIT.o w1 HB1.o;have n_:=acr hmap;clear hmap;go_wp2_with (first|(at_lookup;refine dJ bK rfl _ _ 104 102 rfl Tryz.underlying104 (Tryz.dP _) rfl n_.o id rfl hok ?_;rw[HG.o]));refine(G5.o w1 HB1.o).mono ?_;rintro e w2 ⟨rfl,hb2⟩;have HB2:=acr (HB1.o.trans (hb2.mono HB1.o.size));clear hb2;obtain⟨d7,mP⟩:=C_.o w2 HB2.o;have zN:=acr mP;have HA2:=acr (HH.o.below HB2.o acu);clear mP;have TG:acs (∀w3,MapAt iq w3 (nb d) (bP nm (fA x))→w2.mapTurned w3 (nb d)→(aP g D w3 p mb ib nb (aK T d nm)∧Keeps (fun b=>g b≠ .none) w2 w3)∧aj id (aK T d nm)=some y∧w3.cell? ⟨ib id,2,none⟩=some (.int .i64 y.links)∧w3.frozen? ⟨ib id,2,none⟩=false):=fun w3 hM hTu=>by
     have h3:=cut_at HA2.o HX.o Zu.o hM hTu;have hy3:aj id (aK T d nm)=some y:=by unfold aK;rw[bf,if_neg Jp.o];exact HY.o
     exact⟨h3,hy3,(h3.1.item id y hy3).cell.2.2.1,(h3.1.item id y hy3).frozen 2⟩
    go_wp2_with (at_delete;refine EU iq rfl _ _ 136 3 rfl Tryz.underlying136 rfl zN.o nm rfl GZ ?_;intro w3 hM3 Oe;obtain⟨hA3,hy3,g2,TH⟩:=TG.o w3 hM3 Oe;have Xp:=acr hA3;have HY3:=acr hy3;clear hA3 hM3 Oe hy3);have hA3:=Xp.o;have hgi:=HH.o.qg id y HY.o
    have La:aP g D (w3.setCell ⟨ib id,2,none⟩ (.int .i64 (y.links-1))) p mb ib nb (bC id (fun x=>{x with links:=x.links-1}) (aK T d nm)):=
     hA3.1.fields HY3.o (fun x=>{x with links:=x.links-1}) rfl rfl rfl (Keeps.gI w3 ⟨ib id,2,none⟩ _) (by rw[size_set]) fun a c hc=>by rw[aO hc];rfl
    have hy4:aj id (bC id (fun x=>{x with links:=x.links-1}) (aK T d nm))=some {y with links:=y.links-1}:=by rw[bf,if_pos rfl,HY3.o];rfl
    have Bc:acs (Keeps (fun b=>g b≠ .none) w (w3.setCell ⟨ib id,2,none⟩ (.int .i64 (y.links-1)))):=
     ((lW HB2.o).trans hA3.2 (fun _ _ h=>h)).trans ((Keeps.gI w3 ⟨ib id,2,none⟩ _).mono fun b _ hb=>by rw[show b=ib id from hb,hgi];simp) (fun _ _ h=>h)
    have HSET:=acr (Db id hy4 HWID.o _ La);have HGM:=acr HH.o.jQ;clear hA3 hgi La hy4;refine HSET.o.mono ?_;rintro e w5 ⟨rfl,hA5,yC,_⟩;have HA5:=acr hA5;have Dl:=acr yC;clear hA5 yC;go_wp2_with fail;go_ret;rw[HM.o];exact Turn.of rfl HA5.o (Bc.o.trans (Dl.o.mono fun b _ hb=>by rw[show b=mb from hb,HGM.o];simp) (fun _ _ h=>h))
  ·have hne:(e0==0)=false:=by simpa using he
   have hne2:(e0 !=0)=true:=by simpa using he
   have HM:acs (bL T ls=(e0,T)):=by
    have:jk T ls=e0:=by
     unfold jk;rw[FN.o,if_pos he]
    unfold bL;rw[this,if_neg he];exact rfl
   clear he;go_enter Tryz.func152,Tryz.ntmps152;go_wp2_with fail;refine HF.o.mono ?_;rintro e w1 ⟨rfl,hb1⟩;have HB1:=acr hb1;clear hb1;go_wp2_with fail;refine(qP.o w1 HB1.o).mono ?_;rintro e w2 ⟨rfl,rfl⟩;go_wp2_with fail;go_ret;rw[HM.o];exact Turn.same HH.o HB1.o rfl
 ·have HM:acs (bL T ls=(bH ls,T)):=by
   have:jk T ls=bH ls:=by unfold jk aY;rw[if_pos hf,if_pos hf]
   unfold bL;rw[this,if_neg hf];exact rfl
  have hne:(bH ls==0)=false:=by simpa using hf
  have hne2:(bH ls !=0)=true:=by simpa using hf
  clear hf;go_enter Tryz.func152,Tryz.ntmps152;go_wp2_with fail;refine HF.o.mono ?_;rintro e w1 ⟨rfl,hb1⟩;go_wp2_with fail;go_ret;rw[HM.o];exact Turn.same HH.o hb1 rfl
end
def maxD(d:Int→Nat)(l:List (Nm×Int)):Nat:=(l.map fun e=>1+d e.2).foldr Nat.max 0
theorem Co(d:Int→Nat):∀{l:List (Nm×Int)} {e:Nm×Int},e∈l→1+d e.2≤maxD d l
 |x::r,e,h=>by
  have e1:maxD d (x::r)=Nat.max (1+d x.2) (maxD d r):=rfl;rw[e1];rcases aan.1 h with rfl|h
  ·exact Nat.le_max_left _ _
  ·exact aax (Co d h) (Nat.le_max_right _ _)
theorem maxD_le(d:Int→Nat){m:Nat}:∀{l:List (Nm×Int)},(∀e∈l,1+d e.2≤m)→maxD d l≤m
 |[],_=>Nat.zero_le _
 |x::r,h=>by
  have e1:maxD d (x::r)=Nat.max (1+d x.2) (maxD d r):=rfl;rw[e1];exact Nat.max_le.2 ⟨h x (by simp),maxD_le d fun e he=>h e (by simp[he])⟩
def kr(T:aA):Nat→Int→Nat
 |0,_=>0
 |n+1,id=>maxD (kr T n) (aU T id)
def Dm(T:aA):Nat→Int→Prop
 |0,id=>aU T id=[]
 |n+1,id=>∀e∈aU T id,Dm T n e.2
theorem Dm.le{T:aA}:∀{n:Nat} {id:Int},Dm T n id→kr T n id≤n
 |0,_,_=>Nat.le_refl _
 |n+1,id,h=>maxD_le _ fun e he=>by have:=(h e he).le;omega
section
variable{P:Program}{w:World}{ops:Array Oper}{rest:List Oper}{o:Oper}{a:Act}{Q:Exit→Act→World→Prop}
theorem Ac(hg:o.guard=none)(m:Operand)(t k e:TypeId)(hop:o.op=Op.range t m)(ht:P.underlying t=some (.map k e))(hm:a.eval m= .map none)
  (h:wpList P ops Q rest (a.put o.dst (.pointer (some ⟨w.heap.size,0,none⟩))) (w.alloc (.mapIter none 0 #[] 0))):wpList P ops Q (o::rest) a w:=by
 refine abS hg fun K' hK'=> ?_;have hrun:(Instr.range t (.map none)).run P w= .ok (.pointer (some ⟨w.heap.size,0,none⟩)) (w.alloc (.mapIter none 0 #[] 0)):=by
  simp[Instr.range,abP ht,Result.andThen]
 unfold Oper.wp;simp[execOp,hop,hm,hrun,Result.andThen];exact hK' _ _ h
theorem BM(hg:o.guard=none)(it:Operand)(hop:o.op=Op.next it false){r:Nat}(hit:a.eval it= .pointer (some ⟨r,0,none⟩))(hr:w.heap[r]? =some (.mapIter none 0 #[] 0))
  (h:wpList P ops Q rest (a.put o.dst (.tuple #[.bool false])) w):wpList P ops Q (o::rest) a w:=by
 refine abS hg fun K' hK'=> ?_;have hrun:(Instr.next (.pointer (some ⟨r,0,none⟩)) false o.type).run P w= .ok (.tuple #[.bool false]) w:=by
  simp only[Instr.next,getObj,abz,Sem.run,hr,Result.andThen];rfl
 unfold Oper.wp;simp[execOp,hop,hit,hrun,Result.andThen];exact hK' _ _ h
end
section
variable{g:Nat→Own}{D:Nat→Prop}{p mb:Nat}{ib nb:Int→Nat}{T:aA}
end
end Go.Proofs.YtjnhnlabpccgjaaGreatDoor
