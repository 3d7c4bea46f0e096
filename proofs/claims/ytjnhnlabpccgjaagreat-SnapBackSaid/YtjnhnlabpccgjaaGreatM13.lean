/- package codec: the writer. package codec: Short, Byte, Long, Flag, Raw, Bytes, Done, NewWriter. node.Right, node.Encode. Names that go: what holds of a tree behind Unlink, Rmdir; where a path's name stands. tree: Look, Unlink, Rmdir. tree: deep. -/
import Derived.Test.YtjnhnlabpccgjaaGreatM12
import Derived.Test.YtjnhnlabpccgjaaGreatM08
import Derived.WalkLawsBesides
import Derived.Deep.CutBlock
import Derived.Deep.DeepCutAuto
import Derived.Test.YtjnhnlabpccgjaaGreatM11
namespace Go.Proofs.YtjnhnlabpccgjaaGreat
open Go.ChangeShapes Go.WideShapes Go.ChangeAt Go.RowKit
set_option linter.unusedVariables false
set_option linter.unusedSimpArgs false
def dR (n:Int):Nat→List UInt8
 |0=>[]
 |s+1=>UInt8.ofNat ((n/2^(8*s)).toNat%256)::dR n s
structure bS (B:Nat) (w:World) (x:Nat) (v:Value) (bs:List UInt8):Prop where
 head:w.heap[x]? =some (.cells #[v] 154 (0,0))
 own:w.ownsRow B 5 1 v bs.length (bs.map bv)
 low:B≤x
 apart:v.ownBlock≠some x
def jy (B:Nat) (w:World) (x:Nat) (v:Value) (bs:List UInt8) (v':Value) (w':World):Prop:=
 bS B w' x v' bs∧Keeps (fun b=>b=x∨v.ownBlock=some b) w w'∧∀b,v'.ownBlock=some b→v.ownBlock=some b∨w.heap.size≤b
def nY (B:Nat) (w:World) (x:Nat) (v:Value) (bs:List UInt8) (e:Ending) (w':World):Prop:=e= .returned (.tuple #[])∧∃v',jy B w x v bs v' w'
section
variable {B x:Nat} {w w1 w2:World} {v v1 v2:Value} {bs bs1 bs2:List UInt8}
theorem bS.lt (h:bS B w x v bs):x<w.heap.size:=(Array.getElem?_eq_some_iff.1 h.head).1
theorem bS.cell (h:bS B w x v bs):w.cell? ⟨x,0,none⟩=some v:=by simp[World.cell?,h.head]
theorem bS.frozen (h:bS B w x v bs):w.frozen? ⟨x,0,none⟩=false:=by simp[World.frozen?,h.head]
theorem bS.kept (h:bS B w x v bs) (hs:w.heap.size≤w1.heap.size) (hx:w1.heap[x]? =w.heap[x]?) (hv:∀b,v.ownBlock=some b→w1.heap[b]? =w.heap[b]?):bS B w1 x v bs:=
 ⟨hx.trans h.head,dh h.own fun b hb _=>hv b hb,h.low,h.apart⟩
theorem bS.below (h:bS B w x v bs) (hb:Below w.heap.size w w1):bS B w1 x v bs:=
 h.kept hb.size (hb.block x h.lt) fun b hb'=>hb.block b (kJ h.own b hb')
theorem jy.refl (h:bS B w x v bs):jy B w x v bs v w:=⟨h,Keeps.refl _ _,fun b hb=> .inl hb⟩
theorem jy.trans (h:jy B w x v bs1 v1 w1) (k:jy B w1 x v1 bs2 v2 w2):jy B w x v bs2 v2 w2:=by
 obtain⟨h1,h2,h3⟩:=h
 obtain⟨k1,k2,k3⟩:=k
 have hs:=h2.size
 refine⟨k1,h2.trans k2 fun b hb hb1=> ?_,fun b hb=> ?_⟩
 ·rcases hb1 with h4|h4
  ·exact .inl h4
  ·rcases h3 b h4 with h5|h5
   ·exact .inr h5
   ·omega
 ·rcases k3 b hb with h4|h4
  ·exact h3 b h4
  ·exact .inr (by omega)
theorem jy.below (h:jy B w x v bs v1 w1) (hb:Below w1.heap.size w1 w2):jy B w x v bs v1 w2:=by
 obtain⟨h1,h2,h3⟩:=h
 exact⟨h1.below hb,h2.trans (Keeps.below hb) (fun b hb' hf=>by have:=h2.size;omega),h3⟩
end
theorem I_ {B x:Nat} {wr wa u1:World} {v1 v2:Value} {bs bs':List UInt8} (h:bS B wr x v1 bs) (ha:Below wr.heap.size wr wa) (hown:u1.ownsRow B 5 1 v2 bs'.length (bs'.map bv)) (hg:wa.grownBy u1 v1.ownBlock) (hat:v2.ownBlock=v1.ownBlock∨v2.ownBlock=some wa.heap.size):jy B wr x v1 bs' v2 (u1.setCell ⟨x,0,none⟩ v2):=by
 have hx:=h.lt
 have hs1:=ha.size
 have hs2:=hg.size
 have hxb:u1.heap[x]? =some (.cells #[v1] 154 (0,0)):=(hg.block x (by omega) (fun e=>h.apart e.symm)).trans ((ha.block x hx).trans h.head)
 have hap:v2.ownBlock≠some x:=by
  rcases hat with h1|h1
  ·rw[h1];exact h.apart
  ·rw[h1]
   intro e
   simp only[Option.some.injEq]at e
   omega
 refine⟨⟨?_,dh hown fun b hb hbw=>aK u1 _ _ _ (fun e=>hap (by rw[hb,e])),h.low,hap⟩,⟨hg.os.trans ha.os,hg.tape.trans ha.tape,hg.output.trans ha.output,by rw[size_set];omega,fun b hb hn=> ?_⟩,fun b hb=> ?_⟩
 ·simp only[World.setCell,Array.getElem?_modify,hxb]
  simp
 ·have h1:b≠x:=fun e=>hn (.inl e)
  have h2:v1.ownBlock≠some b:=fun e=>hn (.inr e)
  exact(aK u1 _ _ _ h1).trans ((hg.block b (by omega) (fun e=>h2 e.symm)).trans (ha.block b hb))
 ·rcases hat with h1|h1
  ·exact .inl (h1▸hb)
  ·rw[h1]at hb
   cases hb
   exact .inr hs1
theorem lq {n:Int} (hn:0≤n) (k:Nat):IntKind.u8.wrap (n/2^(8*(k:Int)).toNat)=((UInt8.ofNat ((n/2^(8*k)).toNat%256)).toNat:Int):=by
 have e1:(8*(k:Int)).toNat=8*k:=by omega
 rw[e1]
 have h0:0≤n/2^(8*k):=Int.ediv_nonneg hn (Int.pow_nonneg (by decide))
 generalize n/2^(8*k)=y at h0
 have h1:(UInt8.ofNat (y.toNat%256)).toNat=y.toNat%256:=by simp
 rw[h1]
 simp only[IntKind.wrap,IntKind.bits,IntKind.signed]
 simp
 omega
set_option maxRecDepth 100000 in
set_option maxHeartbeats 4000000 in
theorem CQ {B x:Nat} {w:World} {v:Value} {bs:List UInt8} (h:bS B w x v bs) (n:Int) (s:Nat) (hn:0≤n) (hn':n≤18446744073709551615) (hs:s≤8) (hl:bs.length≤100000000):
  Calls Tryz.prog 95 #[ptr x, .int .u64 n, .int .i64 s] w (nY B w x v (bs++dR n s)):=by
 obtain⟨i8,hi⟩:∃i,Tryz.prog.info? 5=some i∧i.zero=some (.int .u8 0)∧i.size=1∧i.bytes=1:=info_parts (by kernel_rfl)
 have HI:=Lib.hid hi
 have HW:=Lib.hid h
 clear h hi
 go_enter Tryz.func95,Tryz.ntmps95
 go_wp2
 go_loopw [6] (fun kv wr=>∃(k:Nat) (dn:List UInt8) (v1:Value),k≤s∧kv= .int .i64 ((k:Int)-1)∧dn++dR n k=dR n s∧dn.length+k=s∧jy B w x v (bs++dn) v1 wr) (fun kv _=>((intOf kv)+1).toNat)
 case atStart=>exact⟨s,[],v,Nat.le_refl _,by go_num,rfl,by simp,by simpa using jy.refl HW.out⟩
 case round=>
  obtain⟨k,dn,v1,hk,rfl,hdn,hdl,hm⟩:=hrel
  have HM:=Lib.hid hm
  have c0:=hm.1.cell
  have f0:=hm.1.frozen
  clear hm
  cases k with
  |zero=>
   have vJ:=Lib.hid hdn
   have e0:((0:Nat):Int)-1= -1:=by omega
   rw[e0]
   clear hdn
   go_wp2_with fail
   go_end0
   refine⟨rfl,v1,?_⟩
   have h9:=vJ.out
   unfold dR at h9
   rw[List.append_nil]at h9
   cases s with
   |zero=>
    have:dn=[]:=List.eq_nil_of_length_eq_zero (by omega)
    subst this
    exact HM.out
   |succ s=>
    rw[←show dn=dR n (s+1)from by rw[h9];rfl]
    exact HM.out
  |succ k=>
   have hk0:(0:Int)≤k:=by omega
   have e1:((k+1:Nat):Int)-1=(k:Int):=by omega
   rw[e1]
   have e2:IntKind.i64.wrap (8*(k:Int))=8*(k:Int):=IntWalk.i64_in _ (by omega)
   have hge:decide ((0:Int)≤(k:Int))=true:=by simp
   have hbw:=lq hn k
   obtain⟨b0,hb0⟩:∃b0,b0=UInt8.ofNat ((n/2^(8*k)).toNat%256):=⟨_,rfl⟩
   rw[←hb0]at hbw
   have HB0:=Lib.hid hb0
   have vJ:=Lib.hid hdn
   have iK:Hid (∀w',Below wr.heap.size wr w'→w'.cell? ⟨x,0,none⟩=some v1∧w'.frozen? ⟨x,0,none⟩=false):=fun w' hb=>⟨(HM.out.1.below hb).cell,(HM.out.1.below hb).frozen⟩
   obtain⟨N,hN⟩:∃N,N=(bs++dn).length:=⟨_,rfl⟩
   have hN2:N≤100000008:=by rw[hN,List.length_append];omega
   have HOW:Hid (wr.ownsRow B 5 1 v1 N ((bs++dn).map bv)):=by rw[hN];exact HM.out.1.own
   have pJ:=Lib.hid hN
   have hBw:B≤wr.heap.size:=Nat.le_of_lt (Nat.lt_of_le_of_lt HM.out.1.low HM.out.1.lt)
   clear hb0 hdn hN
   go_wp2_with fail
   refine qF 14 ((fun w'=>w'.cell? ⟨x,0,none⟩=some v1∧w'.frozen? ⟨x,0,none⟩=false)) ?_ fun hS=> ?_
   ·exact iK.out _ (Below.refl _ _).drew
   refine ak 0 hS ?_
   refine ak 1 hS ?_
   refine ak 2 hS ?_
   refine ak 3 hS ?_
   refine ak 4 hS ?_
   refine ak 5 hS ?_
   refine ak 6 hS ?_
   refine ak 7 hS ?_
   refine ak 8 hS ?_
   refine ak 9 hS ?_
   refine bK 10 fun K hK=> ?_
   go_simp
   have uE:Below wr.heap.size wr (wr.drew.alloc (.cells #[bv b0] 5)):=(Below.refl _ _).drew.alloc (Nat.le_refl _) _
   refine bR hK (iK.out _ uE) fun hS=> ?_
   clear hK K
   refine bK 11 fun K hK=> ?_
   refine xH (by rfl) (.tmp 17) (.tmp 23) 23 (by rfl) B 5 i8 _ 1 Tryz.underlying23 HI.out.1 HI.out.2.1 HI.out.2.2.1 HI.out.2.2.2 rfl v1 N ((bs++dn).map bv) (by rfl) (dh HOW.out fun b hb hbw=>uE.block b hbw) (some ⟨wr.heap.size,0,none⟩) 1 1 [bv b0] (by rfl) (xV (w:=wr.drew) (bv b0) 5) (by simp[bv,Value.oneCell']) (by unfold maxLen;omega) (by omega) (by simp;omega) ?_
   intro A1 c1 u1 hown1 hg1 _ qO
   have Q8:u1.heap[x]? =some (.cells #[v1] 154 (0,0)):=(hg1.block x (Nat.lt_of_lt_of_le HM.out.1.lt uE.size) (fun e=>HM.out.1.apart e.symm)).trans ((uE.block x HM.out.1.lt).trans HM.out.1.head)
   have hu:u1.cell? ⟨x,0,none⟩=some v1∧u1.frozen? ⟨x,0,none⟩=false:=⟨by simp[World.cell?,Q8],by simp[World.frozen?,Q8]⟩
   refine bR hK (hu) fun hS=> ?_
   clear hK K
   refine ak 12 hS ?_
   refine ak 13 hS ?_
   refine bK 14 fun K hK=> ?_
   go_simp
   refine j_ hK ?_
   clear hS hK K
   go_wp2
   go_roundw
   case rel=>
    refine⟨k,dn++[b0], .slice A1 (N+1) c1,by omega,by go_num,?_,by simp;omega,HM.out.trans (I_ HM.out.1 uE ?_ hg1 qO)⟩
    ·rw[List.append_assoc,←vJ.out,HB0.out]
     rfl
    ·have h9:(bs++(dn++[b0])).length=N+1:=by rw[pJ.out];simp;omega
     rw[h9]
     simpa using hown1
   case measure=>simp[intOf]
theorem oz (w:World):Calls Tryz.prog 39 #[] w fun e w'=>e= .returned (ptr w.heap.size)∧bS w.heap.size w' w.heap.size (.slice none 0 0) []∧Below w.heap.size w w':=by
 go_enter Tryz.func39,Tryz.ntmps39
 go_wp2
 go_ret
 exact⟨rfl,⟨(MapKept.heap_alloc w _).1,⟨rfl, .inl ⟨rfl,rfl⟩⟩,Nat.le_refl _,by simp[Value.ownBlock]⟩,wall w _⟩
section
variable {B x:Nat} {w:World} {v:Value} {bs:List UInt8}
theorem jy.low {bs':List UInt8} {v':Value} {w':World} (h:jy B w x v bs' v' w') (h0:bS B w x v bs):Below B w w':=
 h.2.1.fD (Nat.le_of_lt (Nat.lt_of_le_of_lt h0.low h0.lt)) fun b hb hf=>by
  rcases hf with h1|h1
  ·have:=h0.low;omega
  ·have:=bY h0.own b h1;omega
theorem lu (h:bS B w x v bs) (n:Int) (hn0:0≤n) (hn:n≤1000000000) (hl:bs.length≤100000000):Calls Tryz.prog 59 #[ptr x, .int .i64 n] w (nY B w x v (bs++dR n 2)):=by
 have HP:Hid (Calls Tryz.prog 95 #[ptr x, .int .u64 n, .int .i64 2] w (nY B w x v (bs++dR n 2))):=CQ h n 2 (by omega) (by omega) (by omega) hl
 have e1:IntKind.u64.wrap n=n:=by simp[IntKind.wrap,IntKind.bits,IntKind.signed];omega
 clear h
 go_enter Tryz.func59,Tryz.ntmps59
 go_wp2_with fail
 (with_reducible refine HP.out.mono ?_)
 rintro e w1 ⟨rfl,v1,hm⟩
 go_wp2_with fail
 go_end0
 exact⟨rfl,v1,hm⟩
theorem uF (h:bS B w x v bs) (n:Int) (hn0:0≤n) (hn:n≤1000000000) (hl:bs.length≤100000000):Calls Tryz.prog 42 #[ptr x, .int .i64 n] w (nY B w x v (bs++dR n 1)):=by
 have HP:Hid (Calls Tryz.prog 95 #[ptr x, .int .u64 n, .int .i64 1] w (nY B w x v (bs++dR n 1))):=CQ h n 1 (by omega) (by omega) (by omega) hl
 have e1:IntKind.u64.wrap n=n:=by simp[IntKind.wrap,IntKind.bits,IntKind.signed];omega
 clear h
 go_enter Tryz.func42,Tryz.ntmps42
 go_wp2_with fail
 (with_reducible refine HP.out.mono ?_)
 rintro e w1 ⟨rfl,v1,hm⟩
 go_wp2_with fail
 go_end0
 exact⟨rfl,v1,hm⟩
theorem uG (h:bS B w x v bs) (n:Int) (hn:0≤n) (hn':n≤18446744073709551615) (hl:bs.length≤100000000):Calls Tryz.prog 40 #[ptr x, .int .u64 n] w (nY B w x v (bs++dR n 8)):=by
 have HP:Hid (Calls Tryz.prog 95 #[ptr x, .int .u64 n, .int .i64 8] w (nY B w x v (bs++dR n 8))):=CQ h n 8 hn hn' (by omega) hl
 clear h
 go_enter Tryz.func40,Tryz.ntmps40
 go_wp2_with fail
 (with_reducible refine HP.out.mono ?_)
 rintro e w1 ⟨rfl,v1,hm⟩
 go_wp2_with fail
 go_end0
 exact⟨rfl,v1,hm⟩
def nu (f:Bool):List UInt8:=dR (if f then 1 else 0) 1
theorem Nu (h:bS B w x v bs) (f:Bool) (hl:bs.length≤100000000):Calls Tryz.prog 125 #[ptr x, .bool f] w (nY B w x v (bs++nu f)):=by
 have xZ:=Lib.hid (uF h 1 (by omega) (by omega) hl)
 have HP0:=Lib.hid (uF h 0 (by omega) (by omega) hl)
 clear h
 cases f
 ·have HQ:Hid (Calls Tryz.prog 42 #[ptr x, .int .i64 0] w (nY B w x v (bs++nu false))):=HP0.out
  go_enter Tryz.func125,Tryz.ntmps125
  go_wp2_with fail
  (with_reducible refine HQ.out.mono ?_)
  rintro e w1 ⟨rfl,v1,hm⟩
  go_wp2_with fail
  go_end0
  exact⟨rfl,v1,hm⟩
 ·have HQ:Hid (Calls Tryz.prog 42 #[ptr x, .int .i64 1] w (nY B w x v (bs++nu true))):=xZ.out
  go_enter Tryz.func125,Tryz.ntmps125
  go_wp2_with fail
  (with_reducible refine HQ.out.mono ?_)
  rintro e w1 ⟨rfl,v1,hm⟩
  go_wp2_with fail
  (try simp only[Exit.inBlock,Exit.then])
  refine bodyPost_ret (results_none rfl _ _ _) rfl ?_
  exact⟨rfl,v1,hm⟩
theorem Gw {u1:World} (h:bS B w x v bs) (hg:w.grownBy u1 v.ownBlock):u1.cell? ⟨x,0,none⟩=some v∧u1.frozen? ⟨x,0,none⟩=false:=by
 have Q8:=(hg.block x h.lt (fun e=>h.apart e.symm)).trans h.head
 exact⟨by simp[World.cell?,Q8],by simp[World.frozen?,Q8]⟩
theorem Ja {S:Nat→Prop} (h:bS B w x v bs) (a:Option Addr) (m c:Nat) (l:List UInt8) (hr:ah S w a m (l.map bv)) (hl:bs.length≤100000000) (hm:m≤100000000):Calls Tryz.prog 43 #[ptr x, .slice a m c] w (nY B w x v (bs++l)):=by
 obtain⟨i8,hi⟩:∃i,Tryz.prog.info? 5=some i∧i.zero=some (.int .u8 0)∧i.size=1∧i.bytes=1:=info_parts (by kernel_rfl)
 have HI:=Lib.hid hi
 have HW:=Lib.hid h
 have HR:=Lib.hid hr
 have c0:=h.cell
 have f0:=h.frozen
 have hBw:B≤w.heap.size:=Nat.le_of_lt (Nat.lt_of_le_of_lt h.low h.lt)
 have hlm:l.length=m:=by simpa using hr.length
 have HLM:=Lib.hid hlm
 clear h hi hr hlm
 obtain⟨N,hN⟩:∃N,N=bs.length:=⟨_,rfl⟩
 have HOW:Hid (w.ownsRow B 5 1 v N (bs.map bv)):=by rw[hN];exact HW.out.own
 have pJ:=Lib.hid hN
 rw[←hN]at hl
 clear hN
 have hxw:=HW.out.lt
 go_enter Tryz.func43,Tryz.ntmps43
 go_wp2_with (at_builtin;refine aO rfl _ _ 23 rfl B 5 i8 _ 1 Tryz.underlying23 HI.out.1 HI.out.2.1 HI.out.2.2.1 HI.out.2.2.2 rfl v N (bs.map bv) rfl HOW.out a m c (l.map bv) rfl HR.out (dH l) (by unfold maxLen;omega) (by omega) hBw ?_;intro A1 c1 u1 hown1 hg1 _ qO;have Q8:=Gw HW.out hg1;have hcx:=Q8.1;have hfx:=Q8.2;clear Q8)
 go_end0
 refine⟨rfl,_,I_ (wa:=w) HW.out (Below.refl _ _) ?_ hg1 qO⟩
 have h9:(bs++l).length=N+m:=by rw[List.length_append,←pJ.out,HLM.out]
 rw[h9,List.map_append]
 exact hown1
set_option maxHeartbeats 1000000 in
theorem uH {S:Nat→Prop} (h:bS B w x v bs) (a:Option Addr) (m c:Nat) (l:List UInt8) (hr:ah S w a m (l.map bv)) (hS:∀b,S b→b≠x∧v.ownBlock≠some b) (hc:m≤c) (hl:bs.length≤90000000) (hm:m≤65535):Calls Tryz.prog 41 #[ptr x, .slice a m c] w (nY B w x v (bs++(dR m 2++l))):=by
 have HS:=Lib.hid (lu h (m:Int) (by omega) (by omega) (by omega))
 have HW:=Lib.hid h
 have HRR:=Lib.hid hr
 have HSS:=Lib.hid hS
 have e1:min (m:Int) 65535=(m:Int):=by omega
 have h0:(0:Int)≤(m:Int):=by omega
 have h1:(m:Int)≤(c:Int):=by omega
 clear h hr hS
 go_enter Tryz.func41,Tryz.ntmps41
 go_wp2_with fail
 (with_reducible refine HS.out.mono ?_)
 rintro e w1 ⟨rfl,v1,hm1⟩
 have HM:=Lib.hid hm1
 have hr1:ah S w1 a m (l.map bv):=HRR.out.kept hm1.2.1.size fun b hb hbw=>hm1.2.1.block b hbw fun hf=>by
  rcases hf with h4|h4
  ·exact(HSS.out b hb).1 h4
  ·exact(HSS.out b hb).2 h4
 have HRW:=Lib.hid (Ja hm1.1 a m c l hr1 (by rw[List.length_append];have:(dR (m:Int) 2).length=2:=rfl;omega) (by omega))
 clear hm1 hr1
 go_wp2_with fail
 (with_reducible refine HRW.out.mono ?_)
 rintro e w2 ⟨rfl,v2,hm2⟩
 go_wp2_with fail
 go_end0
 refine⟨rfl,v2,?_⟩
 have:=HM.out.trans hm2
 rw[List.append_assoc]at this
 exact this
theorem Eo (h:bS B w x v bs) (hl:bs.length≤100000000):Calls Tryz.prog 44 #[ptr x] w (ou w bs):=by
 obtain⟨a,c,rfl,hc⟩:=cO h.own
 obtain⟨_,hr⟩:=ah.lg h.own
 have HC:=Lib.hid (Gs a bs.length c bs w (by omega) hr)
 have c0:=h.cell
 clear h hr
 go_enter Tryz.func44,Tryz.ntmps44
 go_wp2_with fail
 (with_reducible refine HC.out.mono ?_)
 rintro e w1 ⟨a1,n1,c1,rfl,hn1,hr1,hb1⟩
 go_wp2_with fail
 go_ret
 exact⟨a1,n1,c1,rfl,hn1,hr1,hb1⟩
theorem Nv (h:bS B w x v bs) (hl:bs.length≤100000000) (h0:0<bs.length):Calls Tryz.prog 44 #[ptr x] w (eO w bs):=by
 obtain⟨a,c,rfl,hc⟩:=cO h.own
 obtain⟨_,hr⟩:=ah.lg h.own
 have HC:=Lib.hid (Ee a bs.length c bs w h0 (by omega) hr)
 have c0:=h.cell
 clear h hr
 go_enter Tryz.func44,Tryz.ntmps44
 go_wp2_with fail
 (with_reducible refine HC.out.mono ?_)
 rintro e w1 ⟨a1,c1,rfl,hr1,hb1⟩
 go_wp2_with fail
 go_ret
 exact⟨a1,c1,rfl,hr1,hb1⟩
end
set_option maxHeartbeats 2000000 in
theorem Gx (k:Int) (x:bq) (h1:Gi x) (hk:0≤k) (hk':k≤65535) (w:World):Calls Tryz.prog 124 #[mI k x] w fun e w'=>e= .returned (.bool true)∧Below w.heap.size w w':=by
 obtain⟨l0,l1⟩:=h1.links
 obtain⟨t0,t1⟩:=h1.aP
 have hb:=h1.size
 obtain⟨n,hn⟩:∃n,n=x.b.length:=⟨_,rfl⟩
 rw[←hn]at hb
 have d1:decide (k<0)=false:=by simpa using hk
 have d2:decide (65535<k)=false:=by simpa using hk'
 have d3:decide (x.links<0)=false:=by simpa using l0
 have d4:decide (65535<x.links)=false:=by simp;omega
 have d5:decide ((n:Int)≤4096)=true:=by simp;omega
 have d6:decide (x.aP≤1099511627776)=true:=by simpa using t1
 have d7:decide ((0:Int)≤(n:Int))=true:=by simp
 unfold mI
 rw[←hn]
 by_cases hk2:x.kind=2
 ·obtain⟨_,hcl,hbn,htl⟩:=h1.dir hk2
  have hn0:n=0:=by rw[hn,hbn];rfl
  subst hn0
  rw[hk2,hcl,htl]
  clear hn h1 hk2 hcl hbn htl d6
  go_enter Tryz.func124,Tryz.ntmps124
  go_wp2
  all_goals (first|(go_ret;exact⟨rfl,wall w _⟩)|((try simp only[Exit.inBlock,Exit.then]);refine bodyPost_ret (by rfl) rfl ?_;exact⟨rfl,wall w _⟩))
 ·have hk1:=h1.kind.resolve_right hk2
  rw[hk1]
  clear hn h1 hk2 hk1
  go_enter Tryz.func124,Tryz.ntmps124
  go_wp2
  all_goals (first|(go_ret;exact⟨rfl,wall w _⟩)|((try simp only[Exit.inBlock,Exit.then]);refine bodyPost_ret (by rfl) rfl ?_;exact⟨rfl,wall w _⟩))
def oC (k:Int) (x:bq):List UInt8:=dR k 2++dR x.kind 1++dR x.links 2++dR x.b.length 2++dR x.aP 8++nu x.closed
theorem bO (n:Int):∀s,(dR n s).length=s
 |0=>rfl
 |s+1=>by unfold dR;rw[List.length_cons,bO n s]
theorem jD (k:Int) (x:bq):(oC k x).length=16:=by
 unfold oC nu
 simp only[List.length_append,bO]
set_option maxHeartbeats 4000000 in
theorem Gy (k:Int) (x:bq) (h1:Gi x) (hk:0≤k) (hk':k≤65535) (w:World):Calls Tryz.prog 61 #[mI k x] w fun e w'=>∃a n c,e= .returned (.tuple #[.slice a n c, .int .i64 0])∧n≤c∧ah (fun b=>w.heap.size≤b∧b<w'.heap.size) w' a n ((oC k x).map bv)∧Below w.heap.size w w':=by
 have HR:=Lib.hid (fun w'=>Gx k x h1 hk hk' w')
 obtain⟨l0,l1⟩:=h1.links
 obtain⟨t0,t1⟩:=h1.aP
 have hb:=h1.size
 have hkd:0≤x.kind∧x.kind≤2:=by rcases h1.kind with h|h<;>omega
 obtain⟨kd0,kd1⟩:=hkd
 unfold oC
 obtain⟨n,hn⟩:∃n:Nat,n=x.b.length:=⟨_,rfl⟩
 rw[←hn]at hb
 unfold mI at HR⊢
 rw[←hn]at HR⊢
 clear h1 hn
 go_enter Tryz.func61,Tryz.ntmps61
 go_wp2_with fail
 (with_reducible refine(HR.out _).mono ?_)
 rintro e w1 ⟨rfl,hb1⟩
 have hsa:(w.alloc (.cells #[.int .i64 k, .int .i64 x.kind, .int .i64 x.links, .int .i64 n, .int .u64 x.aP, .bool x.closed] 101)).heap.size=w.heap.size+1:=by simp
 have hs1:=hb1.size
 have HQ:Hid (∀w',Below w1.heap.size w1 w'→∀j,w'.cell? ⟨w.heap.size,j,none⟩=(#[.int .i64 k, .int .i64 x.kind, .int .i64 x.links, .int .i64 n, .int .u64 x.aP, .bool x.closed]:Array Value)[j]?):=fun w' hb j=>by
  rw[hb.cell (p:=⟨w.heap.size,j,none⟩) (by simp only;omega),hb1.cell (p:=⟨w.heap.size,j,none⟩) (by simp)]
  exact bU (MapKept.heap_alloc w _).1 j
 have HB1:=Lib.hid ((wall w (.cells #[.int .i64 k, .int .i64 x.kind, .int .i64 x.links, .int .i64 n, .int .u64 x.aP, .bool x.closed] 101)).trans (hb1.mono (by omega)))
 clear hb1 HR
 go_wp2_with fail
 (with_reducible refine(oz w1).mono ?_)
 rintro e w2 ⟨rfl,hW2,hb2⟩
 have HW2:=Lib.hid hW2
 have HB2:=Lib.hid hb2
 clear hW2 hb2
 have q0:w2.cell? ⟨w.heap.size,0,none⟩=some (.int .i64 k):=HQ.out _ HB2.out 0
 have HS0:=Lib.hid (lu HW2.out k (by omega) (by omega) (by simp only[List.length_append,List.length_nil,bO];omega))
 go_wp2_with fail
 (with_reducible refine HS0.out.mono ?_)
 rintro e w3 ⟨rfl,v3,Ep⟩
 have HW3:=Lib.hid Ep.1
 have HB3:=Lib.hid (HB2.out.trans (Ep.low HW2.out))
 clear q0 Ep HS0 HW2 HB2
 have q1:w3.cell? ⟨w.heap.size,1,none⟩=some (.int .i64 x.kind):=HQ.out _ HB3.out 1
 have pK:=Lib.hid (uF HW3.out x.kind (by omega) (by omega) (by simp only[List.length_append,List.length_nil,bO];omega))
 go_wp2_with fail
 (with_reducible refine pK.out.mono ?_)
 rintro e w4 ⟨rfl,v4,Er⟩
 have qZ:=Lib.hid Er.1
 have kG:=Lib.hid (HB3.out.trans (Er.low HW3.out))
 clear q1 Er pK HW3 HB3
 have q2:w4.cell? ⟨w.heap.size,2,none⟩=some (.int .i64 x.links):=HQ.out _ kG.out 2
 have HS2:=Lib.hid (lu qZ.out x.links (by omega) (by omega) (by simp only[List.length_append,List.length_nil,bO];omega))
 go_wp2_with fail
 (with_reducible refine HS2.out.mono ?_)
 rintro e w5 ⟨rfl,v5,Gz⟩
 have AA:=Lib.hid Gz.1
 have rW:=Lib.hid (kG.out.trans (Gz.low qZ.out))
 clear q2 Gz HS2 qZ kG
 have q3:w5.cell? ⟨w.heap.size,3,none⟩=some (.int .i64 n):=HQ.out _ rW.out 3
 have xG:=Lib.hid (lu AA.out (n:Int) (by omega) (by omega) (by simp only[List.length_append,List.length_nil,bO];omega))
 go_wp2_with fail
 (with_reducible refine xG.out.mono ?_)
 rintro e w6 ⟨rfl,v6,Nw⟩
 have Xv:=Lib.hid Nw.1
 have DR:=Lib.hid (rW.out.trans (Nw.low AA.out))
 clear q3 Nw xG AA rW
 have q4:w6.cell? ⟨w.heap.size,4,none⟩=some (.int .u64 x.aP):=HQ.out _ DR.out 4
 have pI:=Lib.hid (uG Xv.out x.aP (by omega) (by omega) (by simp only[List.length_append,List.length_nil,bO];omega))
 go_wp2_with fail
 (with_reducible refine pI.out.mono ?_)
 rintro e w7 ⟨rfl,v7,Ny⟩
 have TQ:=Lib.hid Ny.1
 have wS:=Lib.hid (DR.out.trans (Ny.low Xv.out))
 clear q4 Ny pI Xv DR
 have q5:w7.cell? ⟨w.heap.size,5,none⟩=some (.bool x.closed):=HQ.out _ wS.out 5
 have yc:=Lib.hid (Nu TQ.out x.closed (by simp only[List.length_append,List.length_nil,bO];omega))
 go_wp2_with fail
 (with_reducible refine yc.out.mono ?_)
 rintro e w8 ⟨rfl,v8,X6⟩
 have X7:=Lib.hid X6.1
 have vK:=Lib.hid (wS.out.trans (X6.low TQ.out))
 clear q5 X6 yc TQ wS
 have HD:=Lib.hid (Eo X7.out (by simp only[List.length_append,List.length_nil,bO,nu];omega))
 go_wp2_with fail
 (with_reducible refine HD.out.mono ?_)
 rintro e w9 ⟨a9,n9,c9,rfl,QA,Q9,yg⟩
 have U3:=Lib.hid Q9
 have AB:=Lib.hid (vK.out.trans (yg.mono vK.out.size))
 have BM:=vK.out.size
 have hc9':=QA
 clear Q9 yg HD
 go_wp2_with fail
 go_ret2
 refine⟨a9,n9,c9,rfl,hc9',?_,HB1.out.trans (AB.out.mono HB1.out.size)⟩
 have h9:=U3.out.mono (S':=fun b=>w.heap.size≤b∧b<w9.heap.size) fun b hb=>⟨by have:=HB1.out.size;omega,hb.2⟩
 simpa using h9
theorem fU (T:aA):∀(p q:List Nm) (a:Int),aL T a (p++q)=if (aL T a p).2=0 then aL T (aL T a p).1 q else aL T a p
 |[],q,a=>by simp[aL]
 |n::r,q,a=>by
  rcases Option.eq_none_or_eq_some (aj a T)with hx|⟨x,hx⟩
  ·simp[aL,hx]
  ·by_cases hk:x.kind=2
   ·rcases Option.eq_none_or_eq_some (aj n x.names)with hn|⟨k,hn⟩
    ·simp[aL,hx,hk,hn]
    ·simp only[List.cons_append,aL,hx,if_pos hk,hn]
     exact fU T r q k
   ·simp[aL,hx,hk]
theorem fZ {T:aA} {p:List Nm} {id:Int} (h:aL T 0 p=(id,0)) (hp:p≠[]):∃d x n,aV T p=(d,n,0)∧aL T 0 p.dropLast=(d,0)∧aj d T=some x∧x.kind=2∧aj n x.names=some id∧n∈p∧p=p.dropLast++[n]:=by
 obtain⟨q,n,rfl⟩:∃q n,p=q++[n]:=⟨p.dropLast,p.getLast hp,(List.dropLast_concat_getLast hp).symm⟩
 rw[fU]at h
 have hd:(q++[n]).dropLast=q:=by simp
 have hl:(q++[n]).getLastD []=n:=by simp[List.getLastD_eq_getLast?]
 by_cases he:(aL T 0 q).2=0
 ·rw[if_pos he]at h
  obtain⟨⟨d,e0⟩,hq⟩:∃r,r=aL T 0 q:=⟨_,rfl⟩
  rw[←hq]at h he
  simp only at he
  subst he
  simp only[aL]at h
  cases hx:aj d T with
  |none=>rw[hx]at h;cases h
  |some x=>
   rw[hx]at h
   simp only at h
   by_cases hk:x.kind=2
   ·rw[if_pos hk]at h
    cases hn:aj n x.names with
    |none=>rw[hn]at h;cases h
    |some k=>
     rw[hn]at h
     simp only[Prod.mk.injEq,and_true]at h
     subst h
     refine⟨d,x,n,?_,by rw[hd,←hq],hx,hk,hn,by simp,by rw[hd]⟩
     unfold aV
     rw[if_neg hp,hd,hl,←hq,if_neg (by simp),if_pos ((dD hx).trans hk)]
   ·rw[if_neg hk]at h;cases h
 ·rw[if_neg he]at h
  rw[h]at he
  exact absurd rfl he
theorem Nz {α:Type} {κ:Type} [DecidableEq κ] {lt:κ→κ→Bool} (L:lZ lt) (P:κ×α→Bool) {l:List (κ×α)} (hs:aC lt l) {k:κ} {v:α} (hg:aj k l=some v):(bF k l).countP P+(if P (k,v)then 1 else 0)=l.countP P:=by
 induction l with
 |nil=>cases hg
 |cons y r ih=>
  have hp:=hs.apart L
  obtain⟨h1,h2⟩:=List.pairwise_cons.1 hp
  rw[dZ]at hg
  have X8:bF k (y::r)=if y.1=k then bF k r else y::bF k r:=by
   unfold bF
   rw[List.filter_cons]
   by_cases hy:y.1=k<;>simp[hy]
  rw[X8]
  by_cases hy:y.1=k
  ·rw[if_pos hy]at hg
   rw[if_pos hy]
   cases hg
   have hr:bF k r=r:=by
    unfold bF
    rw[List.filter_eq_self]
    intro q hq
    have:=h1 q hq
    simp only[Bool.not_eq_true',decide_eq_false_iff_not]
    exact fun e=>this (hy.trans e.symm)
   have e:(k,y.2)=y:=by rw[←hy]
   rw[hr,List.countP_cons,e]
  ·rw[if_neg hy]at hg
   rw[if_neg hy,List.countP_cons,List.countP_cons]
   have:=ih (List.pairwise_cons.1 hs).2 hg
   omega
theorem U4 {x:bq} (h:Gi x) {n:Nm} {id:Int} (hn:aj n x.names=some id) (k:Int):cn k {x with names:=bF n x.names}+(if id=k then 1 else 0)=cn k x:=by
 have:=Nz qK (fun e:Nm×Int=>decide (e.2=k)) h.sorted hn
 unfold cn
 simp only[decide_eq_true_eq]at this
 exact this
theorem Q_ {x:bq} (h:Gh x) (n:Nm) (hk:x.kind=2):Gh {x with names:=bF n x.names}:=by
 refine⟨h.kind,fun h1=> ?_,h.dir,h.gone,h.sorted.bF _,fun e he=>h.good e (List.mem_filter.1 he).1,h.size,h.links,h.aP⟩
 have:x.kind=1:=h1
 omega
theorem sJ.cut {T:aA} (h:sJ T) {d:Int} {x:bq} {n:Nm} (hx:aj d T=some x) (hk:x.kind=2):sJ (aJ T d n):=
 h.aX hx (Q_ (h.each d x hx) n hk) rfl (fun e he=>h.leads d x hx e (List.mem_filter.1 he).1)
theorem yI.del {T:aA} (h:yI T) {k:Int} {x:bq} (hx:aj k T=some x) (h0:k≠0) (hc:eZ T k=0):yI (bF k T):=by
 have hget:∀j y,aj j (bF k T)=some y→j≠k∧aj j T=some y:=fun j y hy=>by
  rw[eu]at hy
  by_cases hj:j=k
  ·rw[if_pos hj]at hy;cases hy
  ·rw[if_neg hj]at hy;exact⟨hj,hy⟩
 refine⟨h.sorted.bF _,?_,fun j y hy=>h.each j y (hget j y hy).2,fun j y hy e he=> ?_,?_,fun j y hy=>h.ids j y (hget j y hy).2⟩
 ·have hr:=h.root
  unfold bI at hr⊢
  rw[eu,if_neg (Ne.symm h0)]
  exact hr
 ·have h1:=h.leads j y (hget j y hy).2 e he
  have h2:=xS hc (hget j y hy).2 e he
  rw[eu,if_neg h2]
  exact h1
 ·have:=qU bH h.sorted hx
  have:=h.len
  omega
theorem sJ.del {T:aA} (h:sJ T) {k:Int} {x:bq} (hx:aj k T=some x) (h0:k≠0) (hc:eZ T k=0):sJ (bF k T):=
 sJ.UU (h.w.del hx h0 hc) fun j y hy=>by
  rw[eu]at hy
  by_cases hj:j=k
  ·rw[if_pos hj]at hy;cases hy
  ·rw[if_neg hj]at hy;exact(h.each j y hy).links.2
theorem oP {T:aA} (h:yI T) {d id:Int} {x:bq} {n:Nm} (hx:aj d T=some x) (hn:aj n x.names=some id) (j:Int):eZ (aJ T d n) j+(if id=j then 1 else 0)=eZ T j:=by
 have h1:=oL h.sorted (fun x=>{x with names:=bF n x.names}) hx j
 have h2:=U4 (h.each d x hx) hn j
 unfold aJ
 omega
theorem CS {T:aA} {d j:Int} {n:Nm} {y:bq} (hy:aj j (aJ T d n)=some y):∃z,aj j T=some z∧y.links=z.links∧y.kind=z.kind∧y.closed=z.closed∧y.b=z.b∧(j≠d→y=z):=by
 unfold aJ at hy
 rw[bg]at hy
 by_cases hj:j=d
 ·rw[if_pos hj]at hy
  cases hz:aj j T with
  |none=>rw[hz]at hy;cases hy
  |some z=>
   rw[hz]at hy
   simp only[Option.map_some,Option.some.injEq]at hy
   subst hy
   exact⟨z,rfl,rfl,rfl,rfl,rfl,fun h=>absurd hj h⟩
 ·rw[if_neg hj]at hy
  exact⟨y,hy,rfl,rfl,rfl,rfl,fun _=>rfl⟩
theorem eH.Ra {T:aA} (h:eH T) {d id:Int} {x y:bq} {n:Nm} (hx:aj d T=some x) (hk:x.kind=2) (hn:aj n x.names=some id) (hy:aj id T=some y) (hid:id≠d) (h0:id≠0) (hyn:y.names=[]) (hl:y.links=1):eH (bF id (aJ T d n)):=by
 have hP:=h.tosJ.cut (n:=n) hx hk
 have hy1:aj id (aJ T d n)=some y:=by unfold aJ;rw[bg,if_neg hid];exact hy
 have hc:=h.counts id y hy h0
 have h1:=oP h.tosJ hx hn id
 rw[if_pos rfl]at h1
 refine⟨hP.del hy1 h0 (by omega),fun j z hz hj=> ?_⟩
 have hji:j≠id:=fun e=>by subst e;rw[mZ]at hz;cases hz
 rw[eu,if_neg hji]at hz
 obtain⟨z',hz',hl',_⟩:=CS hz
 have h2:=oP h.tosJ hx hn j
 rw[if_neg (Ne.symm hji)]at h2
 have h3:=vD hP.sorted hy1 j
 have h4:cn j y=0:=by unfold cn;rw[hyn];rfl
 have:=h.counts j z' hz' hj
 omega
theorem eH.NA {T:aA} (h:eH T) {d id:Int} {x y:bq} {n:Nm} (hx:aj d T=some x) (hk:x.kind=2) (hn:aj n x.names=some id) (hy:aj id T=some y) (hyk:y.kind≠2):
  eH (fG (Go.Proofs.YtjnhnlabpccgjaaGreat.aX id (fun x=>{x with links:=x.links-1}) (aJ T d n)) id):=by
 have hoy:=h.each id y hy
 have h0:=h.xX hy hyk
 have hid:id≠d:=fun e=>by subst e;rw[hx]at hy;cases hy;exact hyk hk
 have hk1:=hoy.kind.resolve_right hyk
 have hyn:=hoy.file hk1
 have hP:=h.tosJ.cut (n:=n) hx hk
 have hy1:aj id (aJ T d n)=some y:=by unfold aJ;rw[bg,if_neg hid];exact hy
 have hg:aj id (Go.Proofs.YtjnhnlabpccgjaaGreat.aX id (fun x=>{x with links:=x.links-1}) (aJ T d n))=some {y with links:=y.links-1}:=by rw[bg,if_pos rfl,hy1];rfl
 have hcy:=h.counts id y hy h0
 have h1:=oP h.tosJ hx hn id
 rw[if_pos rfl]at h1
 unfold fG
 rw[hg]
 simp only
 by_cases hc:y.links-1=0∧y.closed=true
 ·rw[if_pos hc]
  have e:bF id (Go.Proofs.YtjnhnlabpccgjaaGreat.aX id (fun x=>{x with links:=x.links-1}) (aJ T d n))=bF id (aJ T d n):=by
   generalize aJ T d n=L
   unfold bF Go.Proofs.YtjnhnlabpccgjaaGreat.aX
   induction L with
   |nil=>rfl
   |cons y r ih=>
    rw[List.map_cons,List.filter_cons,List.filter_cons,ih]
    by_cases hy:y.1=id<;>simp[hy]
  rw[e]
  exact h.Ra hx hk hn hy hid h0 hyn (by omega)
 ·rw[if_neg hc]
  refine⟨hP.aX (f:=fun x=>{x with links:=x.links-1}) hy1 ⟨hoy.kind,hoy.file,fun h=>absurd h hyk,fun h=> ?_,hoy.sorted,hoy.good,hoy.size,?_,hoy.aP⟩ rfl (hP.leads id y hy1),fun j z hz hj=> ?_⟩
  ·cases hcl:y.closed with
   |true=>exact absurd ⟨h,hcl⟩ hc
   |false=>rfl
  ·have:=hoy.links
   simp only
   omega
  ·have h3:=oL hP.sorted (fun x=>{x with links:=x.links-1}) hy1 j
   have h3':cn j {y with links:=y.links-1}=cn j y:=rfl
   have h4:=oP h.tosJ hx hn j
   rw[bg]at hz
   by_cases hji:j=id
   ·subst hji
    rw[if_pos rfl,hy1]at hz
    simp only[Option.map_some,Option.some.injEq]at hz
    rw[if_pos rfl]at h4
    rw[←hz]
    simp only
    omega
   ·rw[if_neg hji]at hz
    rw[if_neg (Ne.symm hji)]at h4
    obtain⟨z',hz',hl',_⟩:=CS hz
    have:=h.counts j z' hz' hj
    omega
theorem CU {T:aA} {p:List Nm} (h:gT T p=0):dA p=0∧(aL T 0 p).2=0∧bI T (aL T 0 p).1≠2:=by
 unfold gT mH at h
 by_cases h1:dA p≠0
 ·rw[if_pos h1]at h
  simp only[if_pos h1]at h
  exact absurd h h1
 ·rw[if_neg h1]at h
  by_cases h2:(aL T 0 p).2≠0
  ·rw[if_pos h2]at h;exact absurd h h2
  ·rw[if_neg h2]at h
   by_cases h3:bI T (aL T 0 p).1=2
   ·rw[if_pos h3]at h;cases h
   ·exact⟨by omega,by omega,h3⟩
theorem eH.bJ {T:aA} (h:eH T) (p:List Nm):eH (bJ T p).2:=by
 unfold Go.Proofs.YtjnhnlabpccgjaaGreat.bJ
 by_cases he:gT T p=0
 ·simp only[if_pos he]
  obtain⟨h1,h2,h3⟩:=CU he
  obtain⟨y,hy⟩:=Option.isSome_iff_exists.1 (jZ h p 0 (iG h) h2)
  have hp:p≠[]:=fun e=>by subst e;exact h3 h.root
  obtain⟨d,x,n,e1,_,hx,hk,hn,_⟩:=fZ (id:=(aL T 0 p).1) (Prod.ext rfl h2) hp
  rw[dD hy]at h3
  unfold oK
  rw[e1]
  exact h.NA hx hk hn hy h3
 ·simp only[if_neg he];exact h
section
variable {g:Nat→Own} {D:Nat→Prop} {p mb:Nat} {ib nb:Int→Nat} {T:aA}
theorem NC {S:Nat→Prop} {d:Int} {nm:Nm} (a:Option Addr) (n c:Nat) (ls:List Nm) (w:World) (h:aH g D w p mb ib nb T) (hT:eH T) (hS:bB S w a n (ls.map strOf)) (hc:n≤c) (pO:n≤1000000) (hp:aV T ls=(d,nm,0)):
  Calls Tryz.prog 71 #[ptr p, .slice a n c] w fun e w'=>e= .returned (.tuple #[ptr (ib d), .string (strOf nm), .int .i64 0])∧Below w.heap.size w w':=by
 have:=BG a n c ls w h hT hS hc pO
 unfold uw at this
 rw[hp]at this
 exact this
theorem Ko {w:World} {d:Int} {x:bq} (h:aH g D w p mb ib nb T) (hx:aj d T=some x) (hk:x.kind=2):w.cell? ⟨ib d,7,none⟩=some (.map (some (nb d)))∧MapAt fM w (nb d) (dV x):=by
 have hi:=h.item d x hx
 obtain⟨_,_,_,_,_,_,c7,_⟩:=hi.cell
 unfold dU at c7
 rw[if_pos hk]at c7
 exact⟨c7,hi.names hk⟩
theorem okNm {nm:Nm} (h:bV nm=true):fM.ok nm:=by
 have:=yN nm h
 show nm.length≤maxLen
 unfold maxLen;omega
theorem U5 {w w':World} {d:Int} {x:bq} {n:Nm} (h:aH g D w p mb ib nb T) (hx:aj d T=some x) (hk:x.kind=2) (hM:MapAt fM w' (nb d) (bF n (dV x))) (hT:w.mapTurned w' (nb d)):aH g D w' p mb ib nb (aJ T d n)∧Keeps (fun b=>g b≠ .none) w w':=
 ⟨h.cut hx hk hM hT,(fT hT).mono fun b _ hb=>by rw[show b=nb d from hb,h.kZ d x hx hk];simp⟩
theorem gU {w w':World} {fp:Nat→Prop} (hb:Below w.heap.size w w'):Keeps fp w w':=(Keeps.below hb).mono fun b hb hb'=>absurd hb (by omega)
set_option maxRecDepth 100000 in
set_option maxHeartbeats 8000000 in
theorem Kq {S:Nat→Prop} (a:Option Addr) (n c:Nat) (ls:List Nm) (w:World) (h:aH g D w p mb ib nb T) (hT:eH T) (hS:bB S w a n (ls.map strOf)) (hc:n≤c) (pO:n≤1000000):
  Calls Tryz.prog 33 #[ptr p, .slice a n c] w (Turn g D w p mb (bJ T ls).2 (.int .i64 (bJ T ls).1)):=by
 have HH:=Lib.hid h
 have HT:=Lib.hid hT
 have HS:=Lib.hid hS
 have HF:=Lib.hid (Eb (S:=S) a n c ls w hS)
 have uq:=Lib.hid (fun w1 (hb:Below w.heap.size w w1)=>Ea a n c ls w1 (h.below hb (Nat.le_refl _)) hT (hS.below hb (Nat.le_refl _)))
 clear h hT hS
 by_cases hf:dA ls=0
 ·have A_:=Lib.hid hf
  rw[hf]at HF
  clear hf
  have vH:Hid (mH T ls=aL T 0 ls):=by unfold mH;rw[if_neg (by rw[A_.out];simp)];exact rfl
  obtain⟨⟨id,e0⟩,hq⟩:∃q,q=aL T 0 ls:=⟨_,rfl⟩
  have HQ:=Lib.hid hq
  rw[←hq]at uq vH
  clear hq
  by_cases he:e0=0
  ·subst he
   obtain⟨y,hy⟩:=Option.isSome_iff_exists.1 (Gu HQ.out.symm HT.out)
   have HY:=Lib.hid hy
   have qL:=HT.out.ids id y hy
   have hok:aW.ok id:=qC qL.1 (by omega)
   have HG:Hid (aj id (T.map fun q=>(q.1,ptr (ib q.1)))=some (ptr (ib id))):=by rw[dN,hy];rfl
   have HIT:Hid (∀w1,Below w.heap.size w w1→w1.cell? ⟨p,0,none⟩=some (.map (some mb))∧MapAt aW w1 mb (T.map fun q=>(q.1,ptr (ib q.1)))∧w1.cell? ⟨ib id,1,none⟩=some (.int .i64 y.kind)):=fun w1 hb=>by
    have h2:=HH.out.below hb (Nat.le_refl _)
    obtain⟨_,c1,c2,_⟩:=(h2.item id y HY.out).cell
    exact⟨h2.cell.1,h2.map,c1⟩
   clear hy
   by_cases hk:y.kind=2
   ·have HM:Hid (bJ T ls=(22,T)):=by
     have:gT T ls=22:=by
      unfold gT
      rw[vH.out,←HQ.out,if_neg (by simp),if_pos ((dD HY.out).trans hk)]
     unfold bJ;rw[this]<;>exact rfl
    go_enter Tryz.func33,Tryz.ntmps33
    go_wp2_with fail
    (with_reducible refine HF.out.mono ?_)
    rintro e w1 ⟨rfl,hb1⟩
    have HB1:=Lib.hid hb1
    clear hb1
    go_wp2_with fail
    (with_reducible refine(uq.out w1 HB1.out).mono ?_)
    rintro e w2 ⟨rfl,rfl⟩
    obtain⟨c0,hmap,c1⟩:=HIT.out w1 HB1.out
    rw[hk]at c1
    have lQ:=Lib.hid hmap
    clear hmap
    go_wp2_with (first|(at_lookup;refine bW aW rfl _ _ 104 107 rfl Tryz.underlying104 (Tryz.cK _) rfl lQ.out id rfl hok ?_;rw[HG.out]))
    go_ret
    rw[HM.out]
    exact Turn.same HH.out HB1.out rfl
   ·have hkk:(y.kind==2)=false:=by simpa using hk
    have hp:ls≠[]:=fun e=>by
     have h1:id=0:=congrArg Prod.fst (HQ.out.trans (by rw[e]<;>exact(rfl:aL T 0 []=(0,0))))
     have:=HT.out.root
     rw[←h1,dD HY.out]at this
     exact hk this
    obtain⟨d,x,nm,e1,-,hx,hxk,hn,hmem,-⟩:=fZ HQ.out.symm hp
    have MI:=Lib.hid (sW A_.out _ hmem)
    have CG:=okNm MI.out
    have HM:Hid (bJ T ls=(0,fG (aX id (fun x=>{x with links:=x.links-1}) (aJ T d nm)) id)):=by
     have:gT T ls=0:=by
      unfold gT
      rw[vH.out,←HQ.out,if_neg (by simp),if_neg (by rw[dD HY.out];exact hk)]
     unfold bJ oK;rw[this,←HQ.out,e1];exact rfl
    have FX:=Lib.hid (fun w1 (hb:Below w.heap.size w w1)=>NC a n c ls w1 (HH.out.below hb (Nat.le_refl _)) HT.out (HS.out.below hb (Nat.le_refl _)) hc pO e1)
    have HX:=Lib.hid hx
    have Kc:=Lib.hid hxk
    have hdi:id≠d:=fun e=>by subst e;rw[HY.out]at hx;cases hx;exact hk hxk
    have Es:=Lib.hid hdi
    have yO:=Lib.hid (fun w2 (hb:Below w.heap.size w w2)=>Ko (HH.out.below hb (Nat.le_refl _)) hx hxk)
    have HWID:Hid ((Lit.int .i64 id).wf=true):=hok
    have hln:=(HT.out.each id y HY.out).links
    clear hk hp e1 hx hxk hn hmem hdi
    go_enter Tryz.func33,Tryz.ntmps33
    go_wp2_with fail
    (with_reducible refine HF.out.mono ?_)
    rintro e w1 ⟨rfl,hb1⟩
    have HB1:=Lib.hid hb1
    clear hb1
    go_wp2_with fail
    (with_reducible refine(uq.out w1 HB1.out).mono ?_)
    rintro e w2 ⟨rfl,rfl⟩
    obtain⟨c0,hmap,c1⟩:=HIT.out w1 HB1.out
    have lQ:=Lib.hid hmap
    clear hmap
    go_wp2_with (first|(at_lookup;refine bW aW rfl _ _ 104 107 rfl Tryz.underlying104 (Tryz.cK _) rfl lQ.out id rfl hok ?_;rw[HG.out]))
    (with_reducible refine(FX.out w1 HB1.out).mono ?_)
    rintro e w2 ⟨rfl,hb2⟩
    have HB2:=Lib.hid (HB1.out.trans (hb2.mono HB1.out.size))
    clear hb2
    obtain⟨d7,kI⟩:=yO.out w2 HB2.out
    have u_:=Lib.hid kI
    have HA2:=Lib.hid (HH.out.below HB2.out (Nat.le_refl _))
    clear kI
    have U6:Hid (∀w3,MapAt fM w3 (nb d) (bF nm (dV x))→w2.mapTurned w3 (nb d)→(aH g D w3 p mb ib nb (aJ T d nm)∧Keeps (fun b=>g b≠ .none) w2 w3)∧aj id (aJ T d nm)=some y∧w3.cell? ⟨ib id,2,none⟩=some (.int .i64 y.links)∧w3.frozen? ⟨ib id,2,none⟩=false):=fun w3 hM hTu=>by
     have h3:=U5 HA2.out HX.out Kc.out hM hTu
     have hy3:aj id (aJ T d nm)=some y:=by unfold aJ;rw[bg,if_neg Es.out];exact HY.out
     exact⟨h3,hy3,(h3.1.item id y hy3).cell.2.2.1,(h3.1.item id y hy3).frozen 2⟩
    go_wp2_with (at_delete;refine AU fM rfl _ _ 110 3 rfl Tryz.underlying110 rfl u_.out nm rfl CG ?_;intro w3 X9 TR;obtain⟨hA3,hy3,g2,QB⟩:=U6.out w3 X9 TR;have Rb:=Lib.hid hA3;have Xw:=Lib.hid hy3;clear hA3 X9 TR hy3)
    have hA3:=Rb.out
    have hgi:=HH.out.nk id y HY.out
    have FY:aH g D (w3.setCell ⟨ib id,2,none⟩ (.int .i64 (y.links-1))) p mb ib nb (aX id (fun x=>{x with links:=x.links-1}) (aJ T d nm)):=
     hA3.1.fields Xw.out (fun x=>{x with links:=x.links-1}) rfl rfl rfl (Keeps.fq w3 ⟨ib id,2,none⟩ _) (by rw[size_set]) fun a c hc=>by rw[aG hc];rfl
    have hy4:aj id (aX id (fun x=>{x with links:=x.links-1}) (aJ T d nm))=some {y with links:=y.links-1}:=by rw[bg,if_pos rfl,Xw.out];rfl
    have FZ:Hid (Keeps (fun b=>g b≠ .none) w (w3.setCell ⟨ib id,2,none⟩ (.int .i64 (y.links-1)))):=
     ((gU HB2.out).trans hA3.2 (fun _ _ h=>h)).trans ((Keeps.fq w3 ⟨ib id,2,none⟩ _).mono fun b _ hb=>by rw[show b=ib id from hb,hgi];simp) (fun _ _ h=>h)
    have HSET:=Lib.hid (yR id hy4 HWID.out _ FY)
    have HGM:=Lib.hid HH.out.iH
    clear hA3 hgi FY hy4
    (with_reducible refine HSET.out.mono ?_)
    rintro e w5 ⟨rfl,X_,vL,_⟩
    have HA5:=Lib.hid X_
    have Et:=Lib.hid vL
    clear X_ vL
    go_wp2_with fail
    go_ret
    rw[HM.out]
    exact Turn.of rfl HA5.out (FZ.out.trans (Et.out.mono fun b _ hb=>by rw[show b=mb from hb,HGM.out];simp) (fun _ _ h=>h))
  ·have hne:(e0==0)=false:=by simpa using he
   have hne2:(e0 !=0)=true:=by simpa using he
   have HM:Hid (bJ T ls=(e0,T)):=by
    have:gT T ls=e0:=by
     unfold gT
     rw[vH.out,if_pos he]
    unfold bJ;rw[this,if_neg he];exact rfl
   clear he
   go_enter Tryz.func33,Tryz.ntmps33
   go_wp2_with fail
   (with_reducible refine HF.out.mono ?_)
   rintro e w1 ⟨rfl,hb1⟩
   have HB1:=Lib.hid hb1
   clear hb1
   go_wp2_with fail
   (with_reducible refine(uq.out w1 HB1.out).mono ?_)
   rintro e w2 ⟨rfl,rfl⟩
   go_wp2_with fail
   go_ret
   rw[HM.out]
   exact Turn.same HH.out HB1.out rfl
 ·have HM:Hid (bJ T ls=(dA ls,T)):=by
   have:gT T ls=dA ls:=by unfold gT mH;rw[if_pos hf,if_pos hf]
   unfold bJ;rw[this,if_neg hf];exact rfl
  have hne:(dA ls==0)=false:=by simpa using hf
  have hne2:(dA ls !=0)=true:=by simpa using hf
  clear hf
  go_enter Tryz.func33,Tryz.ntmps33
  go_wp2_with fail
  (with_reducible refine HF.out.mono ?_)
  rintro e w1 ⟨rfl,hb1⟩
  go_wp2_with fail
  go_ret
  rw[HM.out]
  exact Turn.same HH.out hb1 rfl
end
def maxD (d:Int→Nat) (l:List (Nm×Int)):Nat:=(l.map fun e=>1+d e.2).foldr Nat.max 0
theorem CV (d:Int→Nat):∀{l:List (Nm×Int)} {e:Nm×Int},e∈l→1+d e.2≤maxD d l
 |x::r,e,h=>by
  have e1:maxD d (x::r)=Nat.max (1+d x.2) (maxD d r):=rfl
  rw[e1]
  rcases List.mem_cons.1 h with rfl|h
  ·exact Nat.le_max_left _ _
  ·exact Nat.le_trans (CV d h) (Nat.le_max_right _ _)
def sN (T:aA):Nat→Int→Nat
 |0,_=>0
 |n+1,id=>maxD (sN T n) (aY T id)
def Kr (T:aA):Nat→Int→Prop
 |0,id=>aY T id=[]
 |n+1,id=>∀e∈aY T id,Kr T n e.2
section
variable {P:Program} {w:World} {ops:Array Oper} {rest:List Oper} {o:Oper} {a:Act} {Q:Exit→Act→World→Prop}
theorem vM (hg:o.guard=none) (m:Operand) (t k e:TypeId) (hop:o.op=Op.range t m) (ht:P.underlying t=some (.map k e)) (hm:a.eval m= .map none)
  (h:wpList P ops Q rest (a.put o.dst (.pointer (some ⟨w.heap.size,0,none⟩))) (w.alloc (.mapIter none 0 #[] 0))):wpList P ops Q (o::rest) a w:=by
 refine wpList_plain hg fun K' hK'=> ?_
 have hrun:(Instr.range t (.map none)).run P w= .ok (.pointer (some ⟨w.heap.size,0,none⟩)) (w.alloc (.mapIter none 0 #[] 0)):=by
  simp[Instr.range,run_underlying ht,Result.andThen]
 unfold Oper.wp
 simp[execOp,hop,hm,hrun,Result.andThen]
 exact hK' _ _ h
theorem xI (hg:o.guard=none) (it:Operand) (hop:o.op=Op.next it false) {r:Nat} (hit:a.eval it= .pointer (some ⟨r,0,none⟩)) (hr:w.heap[r]? =some (.mapIter none 0 #[] 0))
  (h:wpList P ops Q rest (a.put o.dst (.tuple #[.bool false])) w):wpList P ops Q (o::rest) a w:=by
 refine wpList_plain hg fun K' hK'=> ?_
 have hrun:(Instr.next (.pointer (some ⟨r,0,none⟩)) false o.type).run P w= .ok (.tuple #[.bool false]) w:=by
  simp only[Instr.next,getObj,Sem.run_bind,Sem.run,hr,Result.andThen]
  rfl
 unfold Oper.wp
 simp[execOp,hop,hit,hrun,Result.andThen]
 exact hK' _ _ h
end
section
variable {g:Nat→Own} {D:Nat→Prop} {p mb:Nat} {ib nb:Int→Nat} {T:aA}
end
end Go.Proofs.YtjnhnlabpccgjaaGreat
