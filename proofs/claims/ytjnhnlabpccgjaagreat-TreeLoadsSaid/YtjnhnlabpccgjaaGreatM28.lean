/- What the laws over 'played' lean on. package codec: the writer. package codec: Short, Byte, Long, Flag, Raw, Bytes, Done, NewWriter. Rows whose elements have more than one cell: append. permafrostref4: Byte, Short: some bytes, and behind them these (rows of one's own). node.Right, node.Encode. permafrostref10.Encode. slices.Sorted(maps.Keys(x.names)), of a directory or a file. -/
import Derived.Test.YtjnhnlabpccgjaaGreatM18
import Derived.Test.YtjnhnlabpccgjaaGreatM27
import Derived.Test.YtjnhnlabpccgjaaGreatM14
import Derived.Test.YtjnhnlabpccgjaaGreatM20
import Derived.Test.YtjnhnlabpccgjaaGreatM08
import Derived.WalkLawsBesides
import Derived.Deep.CutBlock
import Derived.Deep.DeepCutAuto
import Derived.Test.YtjnhnlabpccgjaaGreatM11
import Derived.Test.YtjnhnlabpccgjaaGreatM10
import Derived.Test.YtjnhnlabpccgjaaGreatM26
namespace Go.Proofs.YtjnhnlabpccgjaaGreat
open Go.ChangeShapes Go.WideShapes Go.ChangeAt Go.RowKit
set_option linter.unusedVariables false
set_option linter.unusedSimpArgs false
def fJ (n:Int):Nat→List UInt8
 |0=>[]
 |s+1=>UInt8.ofNat ((n/2^(8*s)).toNat%256)::fJ n s
structure dz (B:Nat) (w:World) (x:Nat) (v:Value) (bs:List UInt8):Prop where
 head:w.heap[x]? =some (.cells #[v] 154 (0,0))
 own:w.ownsRow B 5 1 v bs.length (bs.map bv)
 low:B≤x
 apart:v.ownBlock≠some x
def jB (B:Nat) (w:World) (x:Nat) (v:Value) (bs:List UInt8) (v':Value) (w':World):Prop:=
 dz B w' x v' bs∧Keeps (fun b=>b=x∨v.ownBlock=some b) w w'∧∀b,v'.ownBlock=some b→v.ownBlock=some b∨w.heap.size≤b
def oz (B:Nat) (w:World) (x:Nat) (v:Value) (bs:List UInt8) (e:Ending) (w':World):Prop:=e= .returned (.tuple #[])∧∃v',jB B w x v bs v' w'
section
variable {B x:Nat} {w w1 w2:World} {v v1 v2:Value} {bs bs1 ZE:List UInt8}
theorem dz.lt (h:dz B w x v bs):x<w.heap.size:=(Array.getElem?_eq_some_iff.1 h.head).1
theorem dz.cell (h:dz B w x v bs):w.cell? ⟨x,0,none⟩=some v:=by simp[World.cell?,h.head]
theorem dz.frozen (h:dz B w x v bs):w.frozen? ⟨x,0,none⟩=false:=by simp[World.frozen?,h.head]
theorem dz.kept (h:dz B w x v bs) (hs:w.heap.size≤w1.heap.size) (hx:w1.heap[x]? =w.heap[x]?) (hv:∀b,v.ownBlock=some b→w1.heap[b]? =w.heap[b]?):dz B w1 x v bs:=
 ⟨hx.trans h.head,kg h.own fun b hb _=>hv b hb,h.low,h.apart⟩
theorem dz.below (h:dz B w x v bs) (hb:Below w.heap.size w w1):dz B w1 x v bs:=
 h.kept hb.size (hb.block x h.lt) fun b hb'=>hb.block b (lQ h.own b hb')
theorem jB.refl (h:dz B w x v bs):jB B w x v bs v w:=⟨h,Keeps.refl _ _,fun b hb=> .inl hb⟩
theorem jB.trans (h:jB B w x v bs1 v1 w1) (k:jB B w1 x v1 ZE v2 w2):jB B w x v ZE v2 w2:=by
 obtain⟨h1,h2,h3⟩:=h
 obtain⟨k1,k2,k3⟩:=k
 have hs:=h2.size
 refine⟨k1,h2.trans k2 fun b hb hb1=> ?_,fun b hb=> ?_⟩
 ·rcases hb1 with h4|h4
  ·exact .inl h4
  ·rcases h3 b h4 with h5|h5
   ·exact .inr h5
   ·omega
 ·rcases k3 b hb with h4|h4
  ·exact h3 b h4
  ·exact .inr (by omega)
theorem jB.below (h:jB B w x v bs v1 w1) (hb:Below w1.heap.size w1 w2):jB B w x v bs v1 w2:=by
 obtain⟨h1,h2,h3⟩:=h
 exact⟨h1.below hb,h2.trans (Keeps.below hb) (fun b hb' hf=>by have:=h2.size;omega),h3⟩
end
theorem Iq {B x:Nat} {wr wa u1:World} {v1 v2:Value} {bs bs':List UInt8} (h:dz B wr x v1 bs) (ha:Below wr.heap.size wr wa) (hown:u1.ownsRow B 5 1 v2 bs'.length (bs'.map bv)) (hg:wa.grownBy u1 v1.ownBlock) (hat:v2.ownBlock=v1.ownBlock∨v2.ownBlock=some wa.heap.size):jB B wr x v1 bs' v2 (u1.setCell ⟨x,0,none⟩ v2):=by
 have hx:=h.lt
 have hs1:=ha.size
 have hs2:=hg.size
 have hxb:u1.heap[x]? =some (.cells #[v1] 154 (0,0)):=(hg.block x (by omega) (fun e=>h.apart e.symm)).trans ((ha.block x hx).trans h.head)
 have hap:v2.ownBlock≠some x:=by
  rcases hat with h1|h1
  ·rw[h1];exact h.apart
  ·rw[h1]
   intro e
   simp only[Option.some.injEq]at e
   omega
 refine⟨⟨?_,kg hown fun b hb hbw=>bI u1 _ _ _ (fun e=>hap (by rw[hb,e])),h.low,hap⟩,⟨hg.os.trans ha.os,hg.tape.trans ha.tape,hg.output.trans ha.output,by rw[size_set];omega,fun b hb hn=> ?_⟩,fun b hb=> ?_⟩
 ·simp only[World.setCell,Array.getElem?_modify,hxb]
  simp
 ·have h1:b≠x:=fun e=>hn (.inl e)
  have h2:v1.ownBlock≠some b:=fun e=>hn (.inr e)
  exact(bI u1 _ _ _ h1).trans ((hg.block b (by omega) (fun e=>h2 e.symm)).trans (ha.block b hb))
 ·rcases hat with h1|h1
  ·exact .inl (h1▸hb)
  ·rw[h1]at hb
   cases hb
   exact .inr hs1
theorem oC {n:Int} (hn:0≤n) (k:Nat):IntKind.u8.wrap (n/2^(8*(k:Int)).toNat)=((UInt8.ofNat ((n/2^(8*k)).toNat%256)).toNat:Int):=by
 have e1:(8*(k:Int)).toNat=8*k:=by omega
 rw[e1]
 have h0:0≤n/2^(8*k):=Int.ediv_nonneg hn (Int.pow_nonneg (by decide))
 generalize n/2^(8*k)=y at h0
 have h1:(UInt8.ofNat (y.toNat%256)).toNat=y.toNat%256:=by simp
 rw[h1]
 simp only[IntKind.wrap,IntKind.bits,IntKind.signed]
 simp
 omega
set_option maxRecDepth 100000 in
set_option maxHeartbeats 4000000 in
theorem CJ {B x:Nat} {w:World} {v:Value} {bs:List UInt8} (h:dz B w x v bs) (n:Int) (s:Nat) (hn:0≤n) (hn':n≤18446744073709551615) (hs:s≤8) (hl:bs.length≤100000000):
  Calls Tryz.prog 95 #[ptr x, .int .u64 n, .int .i64 s] w (oz B w x v (bs++fJ n s)):=by
 obtain⟨i8,hi⟩:∃i,Tryz.prog.info? 5=some i∧i.zero=some (.int .u8 0)∧i.size=1∧i.bytes=1:=info_parts (by kernel_rfl)
 have HI:=Lib.hid hi
 have HW:=Lib.hid h
 clear h hi
 go_enter Tryz.func95,Tryz.ntmps95
 go_wp2
 go_loopw [6] (fun kv wr=>∃(k:Nat) (dn:List UInt8) (v1:Value),k≤s∧kv= .int .i64 ((k:Int)-1)∧dn++fJ n k=fJ n s∧dn.length+k=s∧jB B w x v (bs++dn) v1 wr) (fun kv _=>((intOf kv)+1).toNat)
 case atStart=>exact⟨s,[],v,Nat.le_refl _,by go_num,rfl,by simp,by simpa using jB.refl HW.out⟩
 case round=>
  obtain⟨k,dn,v1,hk,rfl,hdn,hdl,hm⟩:=hrel
  have HM:=Lib.hid hm
  have c0:=hm.1.cell
  have f0:=hm.1.frozen
  clear hm
  cases k with
  |zero=>
   have zS:=Lib.hid hdn
   have e0:((0:Nat):Int)-1= -1:=by omega
   rw[e0]
   clear hdn
   go_wp2_with fail
   go_end0
   refine⟨rfl,v1,?_⟩
   have h9:=zS.out
   unfold fJ at h9
   rw[List.append_nil]at h9
   cases s with
   |zero=>
    have:dn=[]:=List.eq_nil_of_length_eq_zero (by omega)
    subst this
    exact HM.out
   |succ s=>
    rw[←show dn=fJ n (s+1)from by rw[h9];rfl]
    exact HM.out
  |succ k=>
   have hk0:(0:Int)≤k:=by omega
   have e1:((k+1:Nat):Int)-1=(k:Int):=by omega
   rw[e1]
   have e2:IntKind.i64.wrap (8*(k:Int))=8*(k:Int):=IntWalk.i64_in _ (by omega)
   have hge:decide ((0:Int)≤(k:Int))=true:=by simp
   have hbw:=oC hn k
   obtain⟨b0,hb0⟩:∃b0,b0=UInt8.ofNat ((n/2^(8*k)).toNat%256):=⟨_,rfl⟩
   rw[←hb0]at hbw
   have HB0:=Lib.hid hb0
   have zS:=Lib.hid hdn
   have kV:Hid (∀w',Below wr.heap.size wr w'→w'.cell? ⟨x,0,none⟩=some v1∧w'.frozen? ⟨x,0,none⟩=false):=fun w' hb=>⟨(HM.out.1.below hb).cell,(HM.out.1.below hb).frozen⟩
   obtain⟨N,hN⟩:∃N,N=(bs++dn).length:=⟨_,rfl⟩
   have WV:N≤100000008:=by rw[hN,List.length_append];omega
   have HOW:Hid (wr.ownsRow B 5 1 v1 N ((bs++dn).map bv)):=by rw[hN];exact HM.out.1.own
   have nV:=Lib.hid hN
   have hBw:B≤wr.heap.size:=Nat.le_of_lt (Nat.lt_of_le_of_lt HM.out.1.low HM.out.1.lt)
   clear hb0 hdn hN
   go_wp2_with fail
   refine KN 14 ((fun w'=>w'.cell? ⟨x,0,none⟩=some v1∧w'.frozen? ⟨x,0,none⟩=false)) ?_ fun hS=> ?_
   ·exact kV.out _ (Below.refl _ _).drew
   refine bU 0 hS ?_
   refine bU 1 hS ?_
   refine bU 2 hS ?_
   refine bU 3 hS ?_
   refine bU 4 hS ?_
   refine bU 5 hS ?_
   refine bU 6 hS ?_
   refine bU 7 hS ?_
   refine bU 8 hS ?_
   refine bU 9 hS ?_
   refine iO 10 fun K hK=> ?_
   go_simp
   have Fe:Below wr.heap.size wr (wr.drew.alloc (.cells #[bv b0] 5)):=(Below.refl _ _).drew.alloc (Nat.le_refl _) _
   refine iX hK (kV.out _ Fe) fun hS=> ?_
   clear hK K
   refine iO 11 fun K hK=> ?_
   refine w_ (by rfl) (.tmp 17) (.tmp 23) 23 (by rfl) B 5 i8 _ 1 Tryz.underlying23 HI.out.1 HI.out.2.1 HI.out.2.2.1 HI.out.2.2.2 rfl v1 N ((bs++dn).map bv) (by rfl) (kg HOW.out fun b hb hbw=>Fe.block b hbw) (some ⟨wr.heap.size,0,none⟩) 1 1 [bv b0] (by rfl) (rF (w:=wr.drew) (bv b0) 5) (by simp[bv,Value.oneCell']) (by unfold maxLen;omega) (by omega) (by simp;omega) ?_
   intro A1 c1 u1 hown1 hg1 _ uV
   have Pt:u1.heap[x]? =some (.cells #[v1] 154 (0,0)):=(hg1.block x (Nat.lt_of_lt_of_le HM.out.1.lt Fe.size) (fun e=>HM.out.1.apart e.symm)).trans ((Fe.block x HM.out.1.lt).trans HM.out.1.head)
   have hu:u1.cell? ⟨x,0,none⟩=some v1∧u1.frozen? ⟨x,0,none⟩=false:=⟨by simp[World.cell?,Pt],by simp[World.frozen?,Pt]⟩
   refine iX hK (hu) fun hS=> ?_
   clear hK K
   refine bU 12 hS ?_
   refine bU 13 hS ?_
   refine iO 14 fun K hK=> ?_
   go_simp
   refine Bl hK ?_
   clear hS hK K
   go_wp2
   go_roundw
   case rel=>
    refine⟨k,dn++[b0], .slice A1 (N+1) c1,by omega,by go_num,?_,by simp;omega,HM.out.trans (Iq HM.out.1 Fe ?_ hg1 uV)⟩
    ·rw[List.append_assoc,←zS.out,HB0.out]
     rfl
    ·have h9:(bs++(dn++[b0])).length=N+1:=by rw[nV.out];simp;omega
     rw[h9]
     simpa using hown1
   case measure=>simp[intOf]
theorem sF (w:World):Calls Tryz.prog 39 #[] w fun e w'=>e= .returned (ptr w.heap.size)∧dz w.heap.size w' w.heap.size (.slice none 0 0) []∧Below w.heap.size w w':=by
 go_enter Tryz.func39,Tryz.ntmps39
 go_wp2
 go_ret
 exact⟨rfl,⟨(MapKept.heap_alloc w _).1,⟨rfl, .inl ⟨rfl,rfl⟩⟩,Nat.le_refl _,by simp[Value.ownBlock]⟩,wall w _⟩
section
variable {B x:Nat} {w:World} {v:Value} {bs:List UInt8}
theorem jB.low {bs':List UInt8} {v':Value} {w':World} (h:jB B w x v bs' v' w') (h0:dz B w x v bs):Below B w w':=
 h.2.1.iU (Nat.le_of_lt (Nat.lt_of_le_of_lt h0.low h0.lt)) fun b hb hf=>by
  rcases hf with h1|h1
  ·have:=h0.low;omega
  ·have:=eu h0.own b h1;omega
theorem kS (h:dz B w x v bs) (n:Int) (hn0:0≤n) (hn:n≤1000000000) (hl:bs.length≤100000000):Calls Tryz.prog 59 #[ptr x, .int .i64 n] w (oz B w x v (bs++fJ n 2)):=by
 have HP:Hid (Calls Tryz.prog 95 #[ptr x, .int .u64 n, .int .i64 2] w (oz B w x v (bs++fJ n 2))):=CJ h n 2 (by omega) (by omega) (by omega) hl
 have e1:IntKind.u64.wrap n=n:=by simp[IntKind.wrap,IntKind.bits,IntKind.signed];omega
 clear h
 go_enter Tryz.func59,Tryz.ntmps59
 go_wp2_with fail
 (with_reducible refine HP.out.mono ?_)
 rintro e w1 ⟨rfl,v1,hm⟩
 go_wp2_with fail
 go_end0
 exact⟨rfl,v1,hm⟩
theorem zx (h:dz B w x v bs) (n:Int) (hn0:0≤n) (hn:n≤1000000000) (hl:bs.length≤100000000):Calls Tryz.prog 42 #[ptr x, .int .i64 n] w (oz B w x v (bs++fJ n 1)):=by
 have HP:Hid (Calls Tryz.prog 95 #[ptr x, .int .u64 n, .int .i64 1] w (oz B w x v (bs++fJ n 1))):=CJ h n 1 (by omega) (by omega) (by omega) hl
 have e1:IntKind.u64.wrap n=n:=by simp[IntKind.wrap,IntKind.bits,IntKind.signed];omega
 clear h
 go_enter Tryz.func42,Tryz.ntmps42
 go_wp2_with fail
 (with_reducible refine HP.out.mono ?_)
 rintro e w1 ⟨rfl,v1,hm⟩
 go_wp2_with fail
 go_end0
 exact⟨rfl,v1,hm⟩
theorem M_ (h:dz B w x v bs) (n:Int) (hn:0≤n) (hn':n≤18446744073709551615) (hl:bs.length≤100000000):Calls Tryz.prog 40 #[ptr x, .int .u64 n] w (oz B w x v (bs++fJ n 8)):=by
 have HP:Hid (Calls Tryz.prog 95 #[ptr x, .int .u64 n, .int .i64 8] w (oz B w x v (bs++fJ n 8))):=CJ h n 8 hn hn' (by omega) hl
 clear h
 go_enter Tryz.func40,Tryz.ntmps40
 go_wp2_with fail
 (with_reducible refine HP.out.mono ?_)
 rintro e w1 ⟨rfl,v1,hm⟩
 go_wp2_with fail
 go_end0
 exact⟨rfl,v1,hm⟩
def mZ (f:Bool):List UInt8:=fJ (if f then 1 else 0) 1
theorem Na (h:dz B w x v bs) (f:Bool) (hl:bs.length≤100000000):Calls Tryz.prog 125 #[ptr x, .bool f] w (oz B w x v (bs++mZ f)):=by
 have vW:=Lib.hid (zx h 1 (by omega) (by omega) hl)
 have HP0:=Lib.hid (zx h 0 (by omega) (by omega) hl)
 clear h
 cases f
 ·have HQ:Hid (Calls Tryz.prog 42 #[ptr x, .int .i64 0] w (oz B w x v (bs++mZ false))):=HP0.out
  go_enter Tryz.func125,Tryz.ntmps125
  go_wp2_with fail
  (with_reducible refine HQ.out.mono ?_)
  rintro e w1 ⟨rfl,v1,hm⟩
  go_wp2_with fail
  go_end0
  exact⟨rfl,v1,hm⟩
 ·have HQ:Hid (Calls Tryz.prog 42 #[ptr x, .int .i64 1] w (oz B w x v (bs++mZ true))):=vW.out
  go_enter Tryz.func125,Tryz.ntmps125
  go_wp2_with fail
  (with_reducible refine HQ.out.mono ?_)
  rintro e w1 ⟨rfl,v1,hm⟩
  go_wp2_with fail
  (try simp only[Exit.inBlock,Exit.then])
  refine bodyPost_ret (results_none rfl _ _ _) rfl ?_
  exact⟨rfl,v1,hm⟩
theorem Gv {u1:World} (h:dz B w x v bs) (hg:w.grownBy u1 v.ownBlock):u1.cell? ⟨x,0,none⟩=some v∧u1.frozen? ⟨x,0,none⟩=false:=by
 have Pt:=(hg.block x h.lt (fun e=>h.apart e.symm)).trans h.head
 exact⟨by simp[World.cell?,Pt],by simp[World.frozen?,Pt]⟩
theorem Pv {S:Nat→Prop} (h:dz B w x v bs) (a:Option Addr) (m c:Nat) (l:List UInt8) (hr:aj S w a m (l.map bv)) (hl:bs.length≤100000000) (hm:m≤100000000):Calls Tryz.prog 43 #[ptr x, .slice a m c] w (oz B w x v (bs++l)):=by
 obtain⟨i8,hi⟩:∃i,Tryz.prog.info? 5=some i∧i.zero=some (.int .u8 0)∧i.size=1∧i.bytes=1:=info_parts (by kernel_rfl)
 have HI:=Lib.hid hi
 have HW:=Lib.hid h
 have HR:=Lib.hid hr
 have c0:=h.cell
 have f0:=h.frozen
 have hBw:B≤w.heap.size:=Nat.le_of_lt (Nat.lt_of_le_of_lt h.low h.lt)
 have hlm:l.length=m:=by simpa using hr.length
 have VX:=Lib.hid hlm
 clear h hi hr hlm
 obtain⟨N,hN⟩:∃N,N=bs.length:=⟨_,rfl⟩
 have HOW:Hid (w.ownsRow B 5 1 v N (bs.map bv)):=by rw[hN];exact HW.out.own
 have nV:=Lib.hid hN
 rw[←hN]at hl
 clear hN
 have hxw:=HW.out.lt
 go_enter Tryz.func43,Tryz.ntmps43
 go_wp2_with (at_builtin;refine aW rfl _ _ 23 rfl B 5 i8 _ 1 Tryz.underlying23 HI.out.1 HI.out.2.1 HI.out.2.2.1 HI.out.2.2.2 rfl v N (bs.map bv) rfl HOW.out a m c (l.map bv) rfl HR.out (fq l) (by unfold maxLen;omega) (by omega) hBw ?_;intro A1 c1 u1 hown1 hg1 _ uV;have Pt:=Gv HW.out hg1;have hcx:=Pt.1;have hfx:=Pt.2;clear Pt)
 go_end0
 refine⟨rfl,_,Iq (wa:=w) HW.out (Below.refl _ _) ?_ hg1 uV⟩
 have h9:(bs++l).length=N+m:=by rw[List.length_append,←nV.out,VX.out]
 rw[h9,List.map_append]
 exact hown1
set_option maxHeartbeats 1000000 in
theorem CK {S:Nat→Prop} (h:dz B w x v bs) (a:Option Addr) (m c:Nat) (l:List UInt8) (hr:aj S w a m (l.map bv)) (hS:∀b,S b→b≠x∧v.ownBlock≠some b) (hc:m≤c) (hl:bs.length≤90000000) (hm:m≤65535):Calls Tryz.prog 41 #[ptr x, .slice a m c] w (oz B w x v (bs++(fJ m 2++l))):=by
 have HS:=Lib.hid (kS h (m:Int) (by omega) (by omega) (by omega))
 have HW:=Lib.hid h
 have HRR:=Lib.hid hr
 have ZF:=Lib.hid hS
 have e1:min (m:Int) 65535=(m:Int):=by omega
 have h0:(0:Int)≤(m:Int):=by omega
 have h1:(m:Int)≤(c:Int):=by omega
 clear h hr hS
 go_enter Tryz.func41,Tryz.ntmps41
 go_wp2_with fail
 (with_reducible refine HS.out.mono ?_)
 rintro e w1 ⟨rfl,v1,hm1⟩
 have HM:=Lib.hid hm1
 have hr1:aj S w1 a m (l.map bv):=HRR.out.kept hm1.2.1.size fun b hb hbw=>hm1.2.1.block b hbw fun hf=>by
  rcases hf with h4|h4
  ·exact(ZF.out b hb).1 h4
  ·exact(ZF.out b hb).2 h4
 have HRW:=Lib.hid (Pv hm1.1 a m c l hr1 (by rw[List.length_append];have:(fJ (m:Int) 2).length=2:=rfl;omega) (by omega))
 clear hm1 hr1
 go_wp2_with fail
 (with_reducible refine HRW.out.mono ?_)
 rintro e w2 ⟨rfl,v2,hm2⟩
 go_wp2_with fail
 go_end0
 refine⟨rfl,v2,?_⟩
 have:=HM.out.trans hm2
 rw[List.append_assoc]at this
 exact this
theorem ED (h:dz B w x v bs) (hl:bs.length≤100000000):Calls Tryz.prog 44 #[ptr x] w (yg w bs):=by
 obtain⟨a,c,rfl,hc⟩:=gU h.own
 obtain⟨_,hr⟩:=aj.jI h.own
 have HC:=Lib.hid (oW a bs.length c bs w (by omega) hr)
 have c0:=h.cell
 clear h hr
 go_enter Tryz.func44,Tryz.ntmps44
 go_wp2_with fail
 (with_reducible refine HC.out.mono ?_)
 rintro e w1 ⟨a1,n1,c1,rfl,hn1,hr1,hb1⟩
 go_wp2_with fail
 go_ret
 exact⟨a1,n1,c1,rfl,hn1,hr1,hb1⟩
end
theorem Nb {w:World} {base g:Nat} {e:TypeId} {k:Nat} (hg:w.heap[g]? =some (.cells #[] e)) (hb:base≤g):w.ownsRow base e k (.slice (some ⟨g,0,none⟩) 0 0) 0 []:=by
 refine⟨by simp, .inr ⟨g,0,#[],rfl,hb,hg,Nat.le_refl _,Nat.zero_le _,by simp,by simp⟩⟩
theorem fZ {w wa u:World} {own:Option Nat} (hg:wa.grownBy u own) (ho:∀b,own=some b→w.heap.size≤b) (ha:Below w.heap.size w wa):Below w.heap.size w u:=
 ⟨hg.os.trans ha.os,hg.tape.trans ha.tape,hg.output.trans ha.output,Nat.le_trans ha.size hg.size,fun b hb=>(hg.block b (Nat.lt_of_lt_of_le hb ha.size) (fun e=>by have:=ho b e.symm;omega)).trans (ha.block b hb)⟩
theorem uW (w:World):∀b,(Value.slice (some ⟨w.heap.size,0,none⟩) 0 0).ownBlock=some b→w.heap.size≤b:=by
 intro b hb
 simp[Value.ownBlock]at hb
 omega
theorem EF {w u:World} {o:Obj} {v:Value} {n:Nat} {xs:List Value} (h:u.ownsRow w.heap.size 5 1 v n xs) (ha:v.ownBlock=(Value.slice (some ⟨w.heap.size,0,none⟩) 0 0).ownBlock∨v.ownBlock=some (w.alloc o).heap.size):∀b,v.ownBlock=some b→w.heap.size≤b:=by
 intro b hb
 rcases ha with h1|h1
 ·exact uW w b (h1▸hb)
 ·rw[h1]at hb
  simp at hb
  omega
theorem vZ {u:World} {B:Nat} {v:Value} {n:Nat} {xs:List Value} (h:u.ownsRow B 5 1 v n xs) (o:Obj):(u.alloc o).ownsRow B 5 1 v n xs:=
 kg h fun b _ hbw=>Below.heap_alloc u o b hbw
theorem Gw {w:World} {B:Nat} {e:TypeId} {v:Value} {n b:Nat} {xs:List Value} (h:w.ownsRow B e 1 v n xs) (hb:v.ownBlock=some b):B≤b:=by
 rcases h.2 with⟨h1,_⟩|⟨g,cap,cur,rfl,hg,_⟩
 ·subst h1
  simp[Value.ownBlock]at hb
 ·simp[Value.ownBlock]at hb
  omega
set_option maxHeartbeats 2000000 in
theorem tF {S:Nat→Prop} (a:Option Addr) (m c:Nat) (l:List UInt8) (n:Int) (w:World) (hr:aj S w a m (l.map bv)) (hm:m≤100000000) (hn0:0≤n) (hn:n≤1000000000):
  Calls Tryz.prog 116 #[.slice a m c, .int .i64 n] w (gu w (l++fJ n 1)):=by
 obtain⟨i8,hi⟩:∃i,Tryz.prog.info? 5=some i∧i.zero=some (.int .u8 0)∧i.size=1∧i.bytes=1:=info_parts (by kernel_rfl)
 have HI:=Lib.hid hi
 have HR:=Lib.hid hr
 have hlm:l.length=m:=by simpa using hr.length
 clear hr hi
 go_enter Tryz.func116,Tryz.ntmps116
 have hbw:=oC hn0 0
 have e0:n/2^(8*((0:Nat):Int)).toNat=n:=by simp
 rw[e0]at hbw
 obtain⟨b0,hb0⟩:∃b0,b0=UInt8.ofNat ((n/2^(8*0)).toNat%256):=⟨_,rfl⟩
 rw[←hb0]at hbw
 have HB0:=Lib.hid hb0
 have EG:(w.alloc (.cells #[] 5)).ownsRow w.heap.size 5 1 (.slice (some ⟨w.heap.size,0,none⟩) 0 0) 0 []:=World.ownsRow_lit w #[] 0 (Nat.le_refl _) (by decide) rfl
 have UZ:aj S (w.alloc (.cells #[] 5)) a m (l.map bv):=HR.out.below (wall w _) (Nat.le_refl _)
 have Sd:=Lib.hid EG
 have Sg:=Lib.hid UZ
 have Io:=Lib.hid (wall w (.cells #[] 5))
 have ZG:(w.alloc (.cells #[] 5)).heap.size=w.heap.size+1:=by simp
 clear EG UZ hb0
 go_wp2_with (at_builtin;go_loud (first|(refine aW rfl _ _ 23 rfl w.heap.size 5 i8 _ 1 Tryz.underlying23 HI.out.1 HI.out.2.1 HI.out.2.2.1 HI.out.2.2.2 rfl _ 0 [] rfl Sd.out a m c (l.map bv) rfl Sg.out (fq l) (by unfold maxLen;omega) (by omega) (by omega) ?_;intro A1 c1 u1 hown1 hg1 _ uV;simp only[Nat.zero_add,List.nil_append]at hown1 uV;have Ld:=Lib.hid (fZ hg1 (uW w) Io.out);have hs1:=Ld.out.size;have Ka:=Lib.hid (oU (w:=u1) [bv b0] 5 (by unfold maxLen;simp));have U0:=Lib.hid (vZ hown1 (.cells #[bv b0] 5));have zT:=Lib.hid (wall u1 (.cells #[bv b0] 5));have hzB:(u1.alloc (.cells #[.int .u8 b0.toNat] 5)).heap.size=u1.heap.size+1:=(by simp);have XJ:=Lib.hid (EF hown1 uV);clear hown1 hg1 uV;(try simp only[Nat.zero_add]))|(refine aW rfl _ _ 23 rfl w.heap.size 5 i8 _ 1 Tryz.underlying23 HI.out.1 HI.out.2.1 HI.out.2.2.1 HI.out.2.2.2 rfl _ m (l.map bv) rfl U0.out _ 1 1 [bv b0] rfl Ka.out (fq [b0]) (by unfold maxLen;omega) (by omega) (by omega) ?_;intro A2 c2 u2 hown2 hg2 _ yM;have HG2:=Lib.hid (fZ hg2 XJ.out (Ld.out.trans (zT.out.mono Ld.out.size)));have I6:=Lib.hid hown2;clear hown2 hg2 yM)))
 go_ret
 have e1:fJ n 1=[b0]:=by rw[HB0.out];rfl
 rw[e1]
 refine⟨A2,c2,?_,?_,HG2.out⟩
 ·rw[List.length_append,hlm];rfl
 ·rw[List.length_append,hlm,List.map_append];exact I6.out
set_option maxHeartbeats 2000000 in
theorem iY {S:Nat→Prop} (a:Option Addr) (m c:Nat) (l:List UInt8) (n:Int) (w:World) (hr:aj S w a m (l.map bv)) (hm:m≤100000000) (hn0:0≤n) (hn:n≤1000000000):
  Calls Tryz.prog 52 #[.slice a m c, .int .i64 n] w (gu w (l++fJ n 2)):=by
 obtain⟨i8,hi⟩:∃i,Tryz.prog.info? 5=some i∧i.zero=some (.int .u8 0)∧i.size=1∧i.bytes=1:=info_parts (by kernel_rfl)
 have HI:=Lib.hid hi
 have HR:=Lib.hid hr
 have hlm:l.length=m:=by simpa using hr.length
 clear hr hi
 go_enter Tryz.func52,Tryz.ntmps52
 have hbw:=oC hn0 0
 have e0:n/2^(8*((0:Nat):Int)).toNat=n:=by simp
 rw[e0]at hbw
 have hbx:=oC hn0 1
 obtain⟨b0,hb0⟩:∃b0,b0=UInt8.ofNat ((n/2^(8*0)).toNat%256):=⟨_,rfl⟩
 rw[←hb0]at hbw
 have HB0:=Lib.hid hb0
 obtain⟨b1,hb1⟩:∃b1,b1=UInt8.ofNat ((n/2^(8*1)).toNat%256):=⟨_,rfl⟩
 have hby:n/256%256=((UInt8.ofNat ((n/2^(8*1)).toNat%256)).toNat:Int):=by
  rw[←hbx]
  have e9:(2:Int)^(8*((1:Nat):Int)).toNat=256:=by decide
  rw[e9]
  simp[IntKind.wrap,IntKind.signed,IntKind.bits]
 rw[←hb1]at hby
 clear hbx
 have HB1:=Lib.hid hb1
 have EG:(w.alloc (.cells #[] 5)).ownsRow w.heap.size 5 1 (.slice (some ⟨w.heap.size,0,none⟩) 0 0) 0 []:=World.ownsRow_lit w #[] 0 (Nat.le_refl _) (by decide) rfl
 have UZ:aj S (w.alloc (.cells #[] 5)) a m (l.map bv):=HR.out.below (wall w _) (Nat.le_refl _)
 have Sd:=Lib.hid EG
 have Sg:=Lib.hid UZ
 have Io:=Lib.hid (wall w (.cells #[] 5))
 have ZG:(w.alloc (.cells #[] 5)).heap.size=w.heap.size+1:=by simp
 clear EG UZ hb0 hb1
 go_wp2_with (at_builtin;go_loud (first|(refine aW rfl _ _ 23 rfl w.heap.size 5 i8 _ 1 Tryz.underlying23 HI.out.1 HI.out.2.1 HI.out.2.2.1 HI.out.2.2.2 rfl _ 0 [] rfl Sd.out a m c (l.map bv) rfl Sg.out (fq l) (by unfold maxLen;omega) (by omega) (by omega) ?_;intro A1 c1 u1 hown1 hg1 _ uV;simp only[Nat.zero_add,List.nil_append]at hown1 uV;have Ld:=Lib.hid (fZ hg1 (uW w) Io.out);have hs1:=Ld.out.size;have Ka:=Lib.hid (oU (w:=u1) [bv b1,bv b0] 5 (by unfold maxLen;simp));have U0:=Lib.hid (vZ hown1 (.cells #[bv b1,bv b0] 5));have zT:=Lib.hid (wall u1 (.cells #[bv b1,bv b0] 5));have hzB:(u1.alloc (.cells #[.int .u8 b1.toNat, .int .u8 b0.toNat] 5)).heap.size=u1.heap.size+1:=(by simp);have XJ:=Lib.hid (EF hown1 uV);clear hown1 hg1 uV;(try simp only[Nat.zero_add]))|(refine aW rfl _ _ 23 rfl w.heap.size 5 i8 _ 1 Tryz.underlying23 HI.out.1 HI.out.2.1 HI.out.2.2.1 HI.out.2.2.2 rfl _ m (l.map bv) rfl U0.out _ 2 2 [bv b1,bv b0] rfl Ka.out (fq [b1,b0]) (by unfold maxLen;omega) (by omega) (by omega) ?_;intro A2 c2 u2 hown2 hg2 _ yM;have HG2:=Lib.hid (fZ hg2 XJ.out (Ld.out.trans (zT.out.mono Ld.out.size)));have I6:=Lib.hid hown2;clear hown2 hg2 yM)))
 go_ret
 have e1:fJ n 2=[b1,b0]:=by rw[HB0.out,HB1.out];rfl
 rw[e1]
 refine⟨A2,c2,?_,?_,HG2.out⟩
 ·rw[List.length_append,hlm];rfl
 ·rw[List.length_append,hlm,List.map_append];exact I6.out
set_option maxHeartbeats 2000000 in
theorem qV {S S':Nat→Prop} (a:Option Addr) (m c:Nat) (l:List UInt8) (a':Option Addr) (m' c':Nat) (l':List UInt8) (w:World) (hr:aj S w a m (l.map bv)) (hr':aj S' w a' m' (l'.map bv)) (hm:m≤100000000) (hm':m'≤65535):
  Calls Tryz.prog 53 #[.slice a m c, .slice a' m' c'] w (gu w (l++(fJ m' 2++l'))):=by
 obtain⟨i8,hi⟩:∃i,Tryz.prog.info? 5=some i∧i.zero=some (.int .u8 0)∧i.size=1∧i.bytes=1:=info_parts (by kernel_rfl)
 have HI:=Lib.hid hi
 have HS:=Lib.hid (iY a m c l (m':Int) w hr hm (by omega) (by omega))
 have HR:=Lib.hid hr'
 have hlm:l.length=m:=by simpa using hr.length
 have XK:l'.length=m':=by simpa using hr'.length
 have hg:decide ((65535:Int)<(m':Int))=false:=by simp;omega
 have hg2:decide ((65535:Nat)<m')=false:=by simp;omega
 obtain⟨q,hq⟩:∃q,q=l++fJ (m':Int) 2:=⟨_,rfl⟩
 have HQ:=Lib.hid hq
 have Tt:q.length=m+2:=by rw[hq,List.length_append,hlm];rfl
 rw[←hq]at HS
 clear hr hi hr' hq
 go_enter Tryz.func53,Tryz.ntmps53
 go_wp2_with fail
 (with_reducible refine HS.out.mono ?_)
 rintro e w1 ⟨a1,c1,rfl,hown1,hb1⟩
 have vV:=Lib.hid hown1
 have HB1:=Lib.hid hb1
 have HR1:=Lib.hid (HR.out.below hb1 (Nat.le_refl _))
 have hs1:=hb1.size
 clear hown1 hb1
 obtain⟨N,hN⟩:∃N,N=q.length:=⟨_,rfl⟩
 have hN8:N≤100000002:=by omega
 have HQL:=Lib.hid Tt
 clear Tt
 rw[←hN]at vV⊢
 have HN:=Lib.hid hN
 clear hN
 have XL:Hid (∀b,(Value.slice a1 N c1).ownBlock=some b→w.heap.size≤b):=fun b hb=>Gw vV.out hb
 go_wp2_with (at_builtin;go_loud (refine aW rfl _ _ 23 rfl w.heap.size 5 i8 _ 1 Tryz.underlying23 HI.out.1 HI.out.2.1 HI.out.2.2.1 HI.out.2.2.2 rfl _ N (q.map bv) rfl vV.out a' m' c' (l'.map bv) rfl HR1.out (fq l') (by unfold maxLen;omega) (by omega) (by omega) ?_;intro A2 c2 u2 hown2 U1 _ yM;have HG2:=Lib.hid (fZ U1 XL.out HB1.out);have I6:=Lib.hid hown2;clear hown2 U1 yM))
 go_ret
 have e1:l++(fJ (m':Int) 2++l')=q++l':=by rw[HQ.out,List.append_assoc]
 have e2:(q++l').length=N+m':=by rw[List.length_append,XK,←HN.out]
 rw[e1]
 refine⟨A2,c2,?_,?_,HG2.out⟩
 ·rw[e2];rfl
 ·rw[e2,List.map_append];exact I6.out
theorem Gx {S:Nat→Prop} (a:Option Addr) (m c:Nat) (l:List UInt8) (f:Bool) (w:World) (hr:aj S w a m (l.map bv)) (hm:m≤100000000):
  Calls Tryz.prog 117 #[.slice a m c, .bool f] w (gu w (l++mZ f)):=by
 have H1:=Lib.hid (tF a m c l 1 w hr hm (by omega) (by omega))
 have H0:=Lib.hid (tF a m c l 0 w hr hm (by omega) (by omega))
 clear hr
 cases f with
 |true=>
  go_enter Tryz.func117,Tryz.ntmps117
  go_wp2_with fail
  (with_reducible refine H1.out.mono ?_)
  rintro e w1 ⟨a1,c1,rfl,hown1,hb1⟩
  go_wp2_with fail
  go_ret
  exact⟨a1,c1,(by rw[List.length_append];rfl),hown1,hb1⟩
 |false=>
  go_enter Tryz.func117,Tryz.ntmps117
  go_wp2_with fail
  (with_reducible refine H0.out.mono ?_)
  rintro e w1 ⟨a1,c1,rfl,hown1,hb1⟩
  go_wp2_with fail
  go_ret
  exact⟨a1,c1,(by rw[List.length_append];rfl),hown1,hb1⟩
set_option maxHeartbeats 4000000 in
theorem Gy {S:Nat→Prop} (a:Option Addr) (m c:Nat) (l:List UInt8) (n:Int) (w:World) (hr:aj S w a m (l.map bv)) (hm:m≤100000000) (hn0:0≤n) (hn:n≤18446744073709551615):
  Calls Tryz.prog 118 #[.slice a m c, .int .u64 n] w (gu w (l++fJ n 8)):=by
 obtain⟨i8,hi⟩:∃i,Tryz.prog.info? 5=some i∧i.zero=some (.int .u8 0)∧i.size=1∧i.bytes=1:=info_parts (by kernel_rfl)
 have HI:=Lib.hid hi
 have hlm:l.length=m:=by simpa using hr.length
 have VX:=Lib.hid hlm
 have Sd:=Lib.hid (show(w.alloc (.cells #[] 5)).ownsRow w.heap.size 5 1 (.slice (some ⟨w.heap.size,0,none⟩) 0 0) 0 []from World.ownsRow_lit w #[] 0 (Nat.le_refl _) (by decide) rfl)
 have Sg:Hid (aj S (w.alloc (.cells #[] 5)) a m (l.map bv)):=hr.below (wall w _) (Nat.le_refl _)
 have Io:=Lib.hid (wall w (.cells #[] 5))
 have ZG:(w.alloc (.cells #[] 5)).heap.size=w.heap.size+1:=by simp
 clear hr hi hlm
 go_enter Tryz.func118,Tryz.ntmps118
 go_wp2_with (at_builtin;go_loud (refine aW rfl _ _ 23 rfl w.heap.size 5 i8 _ 1 Tryz.underlying23 HI.out.1 HI.out.2.1 HI.out.2.2.1 HI.out.2.2.2 rfl _ 0 [] rfl Sd.out a m c (l.map bv) rfl Sg.out (fq l) (by unfold maxLen;omega) (by omega) (by omega) ?_;intro A1 c1 u1 hown1 hg1 _ uV;simp only[Nat.zero_add,List.nil_append]at hown1 uV;have Ld:=Lib.hid (fZ hg1 (uW w) Io.out);have vV:=Lib.hid hown1;clear hown1 hg1 uV;(try simp only[Nat.zero_add])))
 go_loopw [5,6] (fun ov iv wr=>∃(k:Nat) (dn:List UInt8) (a1:Option Addr) (c1:Nat),k≤8∧iv= .int .i64 (8*(k:Int)-8)∧dn++fJ n k=fJ n 8∧dn.length+k=8∧ov= .slice a1 (m+dn.length) c1∧wr.ownsRow w.heap.size 5 1 (.slice a1 (m+dn.length) c1) (m+dn.length) ((l++dn).map bv)∧Below w.heap.size w wr) (fun _ iv _=>((intOf iv)+8).toNat)
 case atStart=>exact⟨8,[],A1,c1,by omega,rfl,rfl,rfl,rfl,by simpa using vV.out,Ld.out⟩
 case round=>
  obtain⟨k,dn,a1,c1,hk,rfl,hdn,hdl,rfl,hown,hB⟩:=hrel
  have zS:=Lib.hid hdn
  have HO:=Lib.hid hown
  have HB:=Lib.hid hB
  have Ii:=hB.size
  clear hdn hown hB
  cases k with
  |zero=>
   have e0:8*((0:Nat):Int)-8= -8:=by omega
   rw[e0]
   have NW:Hid (dn.length=8):=Lib.hid (by omega)
   clear hdl
   go_wp2_with fail
   go_ret
   have h9:dn++[]=fJ n 8:=zS.out
   rw[List.append_nil]at h9
   refine⟨a1,c1,?_,?_,HB.out⟩
   ·rw[←h9,List.length_append,VX.out];rfl
   ·rw[←h9,List.length_append,VX.out];exact HO.out
  |succ k=>
   have hk0:(0:Int)≤k:=by omega
   have e1:8*((k+1:Nat):Int)-8=8*(k:Int):=by omega
   rw[e1]
   have hge:decide ((0:Int)≤8*(k:Int))=true:=by simp;omega
   have hbw:n/2^(8*k)%256=((UInt8.ofNat ((n/2^(8*k)).toNat%256)).toNat:Int):=by
    rw[←oC hn0 k,show(8*(k:Int)).toNat=8*k by omega]
    simp[IntKind.wrap,IntKind.signed,IntKind.bits]
   obtain⟨b0,hb0⟩:∃b0,b0=UInt8.ofNat ((n/2^(8*k)).toNat%256):=⟨_,rfl⟩
   rw[←hb0]at hbw
   have HB0:=Lib.hid hb0
   obtain⟨N,hN⟩:∃N,N=m+dn.length:=⟨_,rfl⟩
   have WV:N≤100000008:=by omega
   rw[←hN]at HO⊢
   have nV:=Lib.hid hN
   have Im:=Lib.hid hdl
   have Fe:Below wr.heap.size wr (wr.alloc (.cells #[bv b0] 5)):=wall wr _
   have HOW:=Lib.hid (vZ HO.out (.cells #[bv b0] 5))
   have XL:Hid (∀b,(Value.slice a1 N c1).ownBlock=some b→w.heap.size≤b):=fun b hb=>Gw HO.out hb
   have zT:=Lib.hid (HB.out.trans (Fe.mono Ii))
   clear hb0 hN hdl Fe
   go_wp2_with (at_builtin;go_loud (refine aW rfl _ _ 23 rfl w.heap.size 5 i8 _ 1 Tryz.underlying23 HI.out.1 HI.out.2.1 HI.out.2.2.1 HI.out.2.2.2 rfl _ N ((l++dn).map bv) rfl HOW.out (some ⟨wr.heap.size,0,none⟩) 1 1 [bv b0] rfl (rF (bv b0) 5) (by simp[bv,Value.oneCell']) (by unfold maxLen;omega) (by omega) (by simp;omega) ?_;intro A2 c2 u2 hown2 hg2 _ yM;have HG2:=Lib.hid (fZ hg2 XL.out zT.out);have I6:=Lib.hid hown2;clear hown2 hg2 yM))
   go_roundw
   case rel=>
    refine⟨k,dn++[b0],A2,c2,by omega,by go_num,?_,by have:=Im.out;simp;omega,?_,?_,HG2.out⟩
    ·rw[List.append_assoc,←zS.out,HB0.out]
     rfl
    ·rw[List.length_append,←Nat.add_assoc,←nV.out];rfl
    ·rw[List.length_append,←Nat.add_assoc,←nV.out,←List.append_assoc,List.map_append]
     exact I6.out
   case measure=>simp[intOf];omega
set_option maxHeartbeats 2000000 in
theorem Gz (k:Int) (x:bA) (h1:Fx x) (hk:0≤k) (hk':k≤65535) (w:World):Calls Tryz.prog 124 #[iJ k x] w fun e w'=>e= .returned (.bool true)∧Below w.heap.size w w':=by
 obtain⟨l0,l1⟩:=h1.links
 obtain⟨t0,t1⟩:=h1.aO
 have hb:=h1.size
 obtain⟨n,hn⟩:∃n,n=x.b.length:=⟨_,rfl⟩
 rw[←hn]at hb
 have d1:decide (k<0)=false:=by simpa using hk
 have d2:decide (65535<k)=false:=by simpa using hk'
 have d3:decide (x.links<0)=false:=by simpa using l0
 have d4:decide (65535<x.links)=false:=by simp;omega
 have d5:decide ((n:Int)≤4096)=true:=by simp;omega
 have d6:decide (x.aO≤1099511627776)=true:=by simpa using t1
 have d7:decide ((0:Int)≤(n:Int))=true:=by simp
 unfold iJ
 rw[←hn]
 by_cases hk2:x.kind=2
 ·obtain⟨_,hcl,hbn,htl⟩:=h1.dir hk2
  have hn0:n=0:=by rw[hn,hbn];rfl
  subst hn0
  rw[hk2,hcl,htl]
  clear hn h1 hk2 hcl hbn htl d6
  go_enter Tryz.func124,Tryz.ntmps124
  go_wp2
  all_goals (first|(go_ret;exact⟨rfl,wall w _⟩)|((try simp only[Exit.inBlock,Exit.then]);refine bodyPost_ret (by rfl) rfl ?_;exact⟨rfl,wall w _⟩))
 ·have hk1:=h1.kind.resolve_right hk2
  rw[hk1]
  clear hn h1 hk2 hk1
  go_enter Tryz.func124,Tryz.ntmps124
  go_wp2
  all_goals (first|(go_ret;exact⟨rfl,wall w _⟩)|((try simp only[Exit.inBlock,Exit.then]);refine bodyPost_ret (by rfl) rfl ?_;exact⟨rfl,wall w _⟩))
def nL (k:Int) (x:bA):List UInt8:=fJ k 2++fJ x.kind 1++fJ x.links 2++fJ x.b.length 2++fJ x.aO 8++mZ x.closed
theorem dO (n:Int):∀s,(fJ n s).length=s
 |0=>rfl
 |s+1=>by unfold fJ;rw[List.length_cons,dO n s]
theorem jC (k:Int) (x:bA):(nL k x).length=16:=by
 unfold nL mZ
 simp only[List.length_append,dO]
set_option maxHeartbeats 4000000 in
theorem GA (k:Int) (x:bA) (h1:Fx x) (hk:0≤k) (hk':k≤65535) (w:World):Calls Tryz.prog 61 #[iJ k x] w fun e w'=>∃a n c,e= .returned (.tuple #[.slice a n c, .int .i64 0])∧n≤c∧aj (fun b=>w.heap.size≤b∧b<w'.heap.size) w' a n ((nL k x).map bv)∧Below w.heap.size w w':=by
 have HR:=Lib.hid (fun w'=>Gz k x h1 hk hk' w')
 obtain⟨l0,l1⟩:=h1.links
 obtain⟨t0,t1⟩:=h1.aO
 have hb:=h1.size
 have hkd:0≤x.kind∧x.kind≤2:=by rcases h1.kind with h|h<;>omega
 obtain⟨ZH,kd1⟩:=hkd
 unfold nL
 obtain⟨n,hn⟩:∃n:Nat,n=x.b.length:=⟨_,rfl⟩
 rw[←hn]at hb
 unfold iJ at HR⊢
 rw[←hn]at HR⊢
 clear h1 hn
 go_enter Tryz.func61,Tryz.ntmps61
 go_wp2_with fail
 (with_reducible refine(HR.out _).mono ?_)
 rintro e w1 ⟨rfl,hb1⟩
 have hsa:(w.alloc (.cells #[.int .i64 k, .int .i64 x.kind, .int .i64 x.links, .int .i64 n, .int .u64 x.aO, .bool x.closed] 101)).heap.size=w.heap.size+1:=by simp
 have hs1:=hb1.size
 have HQ:Hid (∀w',Below w1.heap.size w1 w'→∀j,w'.cell? ⟨w.heap.size,j,none⟩=(#[.int .i64 k, .int .i64 x.kind, .int .i64 x.links, .int .i64 n, .int .u64 x.aO, .bool x.closed]:Array Value)[j]?):=fun w' hb j=>by
  rw[hb.cell (p:=⟨w.heap.size,j,none⟩) (by simp only;omega),hb1.cell (p:=⟨w.heap.size,j,none⟩) (by simp)]
  exact eZ (MapKept.heap_alloc w _).1 j
 have HB1:=Lib.hid ((wall w (.cells #[.int .i64 k, .int .i64 x.kind, .int .i64 x.links, .int .i64 n, .int .u64 x.aO, .bool x.closed] 101)).trans (hb1.mono (by omega)))
 clear hb1 HR
 go_wp2_with fail
 (with_reducible refine(sF w1).mono ?_)
 rintro e w2 ⟨rfl,hW2,hb2⟩
 have HW2:=Lib.hid hW2
 have HB2:=Lib.hid hb2
 clear hW2 hb2
 have q0:w2.cell? ⟨w.heap.size,0,none⟩=some (.int .i64 k):=HQ.out _ HB2.out 0
 have VY:=Lib.hid (kS HW2.out k (by omega) (by omega) (by simp only[List.length_append,List.length_nil,dO];omega))
 go_wp2_with fail
 (with_reducible refine VY.out.mono ?_)
 rintro e w3 ⟨rfl,v3,NT⟩
 have HW3:=Lib.hid NT.1
 have HB3:=Lib.hid (HB2.out.trans (NT.low HW2.out))
 clear q0 NT VY HW2 HB2
 have q1:w3.cell? ⟨w.heap.size,1,none⟩=some (.int .i64 x.kind):=HQ.out _ HB3.out 1
 have tK:=Lib.hid (zx HW3.out x.kind (by omega) (by omega) (by simp only[List.length_append,List.length_nil,dO];omega))
 go_wp2_with fail
 (with_reducible refine tK.out.mono ?_)
 rintro e w4 ⟨rfl,v4,Nc⟩
 have TG:=Lib.hid Nc.1
 have dS:=Lib.hid (HB3.out.trans (Nc.low HW3.out))
 clear q1 Nc tK HW3 HB3
 have q2:w4.cell? ⟨w.heap.size,2,none⟩=some (.int .i64 x.links):=HQ.out _ dS.out 2
 have HS2:=Lib.hid (kS TG.out x.links (by omega) (by omega) (by simp only[List.length_append,List.length_nil,dO];omega))
 go_wp2_with fail
 (with_reducible refine HS2.out.mono ?_)
 rintro e w5 ⟨rfl,v5,L8⟩
 have XM:=Lib.hid L8.1
 have iQ:=Lib.hid (dS.out.trans (L8.low TG.out))
 clear q2 L8 HS2 TG dS
 have q3:w5.cell? ⟨w.heap.size,3,none⟩=some (.int .i64 n):=HQ.out _ iQ.out 3
 have Lc:=Lib.hid (kS XM.out (n:Int) (by omega) (by omega) (by simp only[List.length_append,List.length_nil,dO];omega))
 go_wp2_with fail
 (with_reducible refine Lc.out.mono ?_)
 rintro e w6 ⟨rfl,v6,Si⟩
 have XO:=Lib.hid Si.1
 have rQ:=Lib.hid (iQ.out.trans (Si.low XM.out))
 clear q3 Si Lc XM iQ
 have q4:w6.cell? ⟨w.heap.size,4,none⟩=some (.int .u64 x.aO):=HQ.out _ rQ.out 4
 have Om:=Lib.hid (M_ XO.out x.aO (by omega) (by omega) (by simp only[List.length_append,List.length_nil,dO];omega))
 go_wp2_with fail
 (with_reducible refine Om.out.mono ?_)
 rintro e w7 ⟨rfl,v7,Nf⟩
 have XP:=Lib.hid Nf.1
 have vk:=Lib.hid (rQ.out.trans (Nf.low XO.out))
 clear q4 Nf Om XO rQ
 have q5:w7.cell? ⟨w.heap.size,5,none⟩=some (.bool x.closed):=HQ.out _ vk.out 5
 have TF:=Lib.hid (Na XP.out x.closed (by simp only[List.length_append,List.length_nil,dO];omega))
 go_wp2_with fail
 (with_reducible refine TF.out.mono ?_)
 rintro e w8 ⟨rfl,v8,U2⟩
 have HW8:=Lib.hid U2.1
 have sZ:=Lib.hid (vk.out.trans (U2.low XP.out))
 clear q5 U2 TF XP vk
 have HD:=Lib.hid (ED HW8.out (by simp only[List.length_append,List.length_nil,dO,mZ];omega))
 go_wp2_with fail
 (with_reducible refine HD.out.mono ?_)
 rintro e w9 ⟨a9,n9,c9,rfl,XQ,U3,zw⟩
 have UC:=Lib.hid U3
 have CG:=Lib.hid (sZ.out.trans (zw.mono sZ.out.size))
 have Ip:=sZ.out.size
 have XR:=XQ
 clear U3 zw HD
 go_wp2_with fail
 go_ret2
 refine⟨a9,n9,c9,rfl,XR,?_,HB1.out.trans (CG.out.mono HB1.out.size)⟩
 have h9:=UC.out.mono (S':=fun b=>w.heap.size≤b∧b<w9.heap.size) fun b hb=>⟨by have:=HB1.out.size;omega,hb.2⟩
 simpa using h9
theorem zy {w:World} {B B':Nat} {e:TypeId} {k:Nat} {v:Value} {n:Nat} {xs:List Value} (h:w.ownsRow B' e k v n xs) (hb:B≤B'):w.ownsRow B e k v n xs:=by
 obtain⟨h1,h2⟩:=h
 refine⟨h1,h2.imp id ?_⟩
 rintro ⟨g,cap,cur,e1,e2,e3⟩
 exact⟨g,cap,cur,e1,Nat.le_trans hb e2,e3⟩
theorem gq {w:World} {B:Nat} {a:Option Addr} {c:Nat} {bs:List UInt8} (h:w.ownsRow B 5 1 (.slice a bs.length c) bs.length (bs.map bv)):aj (fun x=>B≤x∧x<w.heap.size) w a bs.length (bs.map bv):=(aj.jI h).2
theorem Pw (k:Int) (x:bA):nL k x=(((((fJ k 2++fJ x.kind 1)++fJ x.links 2)++fJ x.b.length 2)++fJ x.aO 8)++mZ x.closed):=rfl
set_option maxHeartbeats 4000000 in
theorem GD (k:Int) (x:bA) (h1:Fw x) (hk:0≤k) (hk':k≤65535) (w:World):Calls Tryz.prog 54 #[iJ k x] w (gu w (nL k x)):=by
 obtain⟨l0,l1⟩:=h1.links
 obtain⟨t0,t1⟩:=h1.aO
 have hb:=h1.size
 have hkd:0≤x.kind∧x.kind≤2:=by rcases h1.kind with h|h<;>omega
 obtain⟨ZH,kd1⟩:=hkd
 rw[Pw]
 obtain⟨n,hn⟩:∃n:Nat,n=x.b.length:=⟨_,rfl⟩
 rw[←hn]at hb
 unfold iJ
 rw[←hn]
 clear h1 hn
 obtain⟨L1,hL1⟩:∃L,L=fJ k 2:=⟨_,rfl⟩
 have hl1:L1.length=2:=by rw[hL1];rfl
 have tK:Hid (∀w':World,Calls Tryz.prog 52 #[.slice none 0 0, .int .i64 k] w' (gu w' L1)):=fun w'=>by rw[hL1];exact iY (S:=fun _=>True) none 0 0 [] k w' (aj.nil _ _ _) (by omega) hk (by omega)
 obtain⟨L2,hL2⟩:∃L,L=L1++fJ x.kind 1:=⟨_,rfl⟩
 have hl2:L2.length=3:=by rw[hL2,List.length_append,hl1];rfl
 have HS2:Hid (∀(B:Nat) (w':World) (a:Option Addr) (c:Nat),w'.ownsRow B 5 1 (.slice a L1.length c) L1.length (L1.map bv)→Calls Tryz.prog 116 #[.slice a L1.length c, .int .i64 x.kind] w' (gu w' L2)):=fun B w' a c h=>by rw[hL2];exact tF a _ c _ x.kind w' (gq h) (by omega) ZH (by omega)
 obtain⟨L3,hL3⟩:∃L,L=L2++fJ x.links 2:=⟨_,rfl⟩
 have hl3:L3.length=5:=by rw[hL3,List.length_append,hl2];rfl
 have Lc:Hid (∀(B:Nat) (w':World) (a:Option Addr) (c:Nat),w'.ownsRow B 5 1 (.slice a L2.length c) L2.length (L2.map bv)→Calls Tryz.prog 52 #[.slice a L2.length c, .int .i64 x.links] w' (gu w' L3)):=fun B w' a c h=>by rw[hL3];exact iY a _ c _ x.links w' (gq h) (by omega) l0 (by omega)
 obtain⟨L4,hL4⟩:∃L,L=L3++fJ (n:Int) 2:=⟨_,rfl⟩
 have hl4:L4.length=7:=by rw[hL4,List.length_append,hl3];rfl
 have Om:Hid (∀(B:Nat) (w':World) (a:Option Addr) (c:Nat),w'.ownsRow B 5 1 (.slice a L3.length c) L3.length (L3.map bv)→Calls Tryz.prog 52 #[.slice a L3.length c, .int .i64 (n:Int)] w' (gu w' L4)):=fun B w' a c h=>by rw[hL4];exact iY a _ c _ (n:Int) w' (gq h) (by omega) (by omega) (by omega)
 obtain⟨L5,hL5⟩:∃L,L=L4++fJ x.aO 8:=⟨_,rfl⟩
 have hl5:L5.length=15:=by rw[hL5,List.length_append,hl4];rfl
 have TF:Hid (∀(B:Nat) (w':World) (a:Option Addr) (c:Nat),w'.ownsRow B 5 1 (.slice a L4.length c) L4.length (L4.map bv)→Calls Tryz.prog 118 #[.slice a L4.length c, .int .u64 x.aO] w' (gu w' L5)):=fun B w' a c h=>by rw[hL5];exact Gy a _ c _ x.aO w' (gq h) (by omega) t0 (by omega)
 obtain⟨L6,hL6⟩:∃L,L=L5++mZ x.closed:=⟨_,rfl⟩
 have hl6:L6.length=16:=by rw[hL6,List.length_append,hl5];rfl
 have ME:Hid (∀(B:Nat) (w':World) (a:Option Addr) (c:Nat),w'.ownsRow B 5 1 (.slice a L5.length c) L5.length (L5.map bv)→Calls Tryz.prog 117 #[.slice a L5.length c, .bool x.closed] w' (gu w' L6)):=fun B w' a c h=>by rw[hL6];exact Gx a _ c _ x.closed w' (gq h) (by omega)
 rw[←hL1,←hL2,←hL3,←hL4,←hL5,←hL6]
 clear hL6 hL5 hL4 hL3 hL2 hL1
 clear hl1 hl2 hl3 hl4 hl5 hl6
 have HQ:Hid (∀w',Below (w.alloc (.cells #[.int .i64 k, .int .i64 x.kind, .int .i64 x.links, .int .i64 (n:Int), .int .u64 x.aO, .bool x.closed] 101)).heap.size (w.alloc (.cells #[.int .i64 k, .int .i64 x.kind, .int .i64 x.links, .int .i64 (n:Int), .int .u64 x.aO, .bool x.closed] 101)) w'→∀j,w'.cell? ⟨w.heap.size,j,none⟩=(#[.int .i64 k, .int .i64 x.kind, .int .i64 x.links, .int .i64 (n:Int), .int .u64 x.aO, .bool x.closed]:Array Value)[j]?):=fun w' hb j=>by
  rw[hb.cell (p:=⟨w.heap.size,j,none⟩) (by simp)]
  exact eZ (MapKept.heap_alloc w _).1 j
 have Io:=Lib.hid (wall w (.cells #[.int .i64 k, .int .i64 x.kind, .int .i64 x.links, .int .i64 (n:Int), .int .u64 x.aO, .bool x.closed] 101))
 go_enter Tryz.func54,Tryz.ntmps54
 go_wp2_with fail
 generalize (w.alloc (.cells #[.int .i64 k, .int .i64 x.kind, .int .i64 x.links, .int .i64 (n:Int), .int .u64 x.aO, .bool x.closed] 101))=wa at*
 have hza:=Io.out.size
 refine KQ ((fun w'=>w'.cell? ⟨w.heap.size,0,none⟩=some (.int .i64 k)∧w'.cell? ⟨w.heap.size,1,none⟩=some (.int .i64 x.kind)∧w'.cell? ⟨w.heap.size,2,none⟩=some (.int .i64 x.links))) ?_ fun hS=> ?_
 ·exact⟨HQ.out _ (Below.refl _ _).drew 0,HQ.out _ (Below.refl _ _).drew 1,HQ.out _ (Below.refl _ _).drew 2⟩
 refine dJ 0 hS ?_
 refine dJ 1 hS ?_
 refine dJ 3 hS ?_
 refine dJ 4 hS ?_
 refine dJ 6 hS ?_
 refine dJ 7 hS ?_
 refine sw 2 fun K hK=> ?_
 go_simp
 (with_reducible refine(tK.out _).mono ?_)
 rintro e w1 ⟨a1,c1,rfl,hown1,hb1'⟩
 have hb1:Below wa.heap.size wa w1:=(Below.refl _ _).drew.trans hb1'
 go_simp
 refine sD hK (⟨HQ.out _ hb1 0,HQ.out _ hb1 1,HQ.out _ hb1 2⟩) fun hS=> ?_
 clear hK K
 refine sw 5 fun K hK=> ?_
 go_simp
 (with_reducible refine(HS2.out _ _ _ _ hown1).mono ?_)
 rintro e w2 ⟨a2,c2,rfl,hown2,hb2'⟩
 have hb2:Below wa.heap.size wa w2:=hb1.trans (hb2'.mono hb1.size)
 go_simp
 refine sD hK (⟨HQ.out _ hb2 0,HQ.out _ hb2 1,HQ.out _ hb2 2⟩) fun hS=> ?_
 clear hK K
 refine sw 8 fun K hK=> ?_
 go_simp
 (with_reducible refine(Lc.out _ _ _ _ hown2).mono ?_)
 rintro e w3 ⟨a3,c3,rfl,hown3,RX⟩
 have hb3:Below wa.heap.size wa w3:=hb2.trans (RX.mono hb2.size)
 go_simp
 refine sD hK (⟨HQ.out _ hb3 0,HQ.out _ hb3 1,HQ.out _ hb3 2⟩) fun hS=> ?_
 clear hK K
 refine sw 9 fun K hK=> ?_
 go_simp
 refine sD hK (⟨HQ.out _ hb3 0,HQ.out _ hb3 1,HQ.out _ hb3 2⟩) fun hS=> ?_
 clear hK K
 refine KP ?_
 go_wp2_with fail
 have Sj:w3.drew.ownsRow w2.heap.size 5 1 (.slice a3 L3.length c3) L3.length (L3.map bv):=hown3
 refine KQ ((fun w'=>w'.cell? ⟨w.heap.size,3,none⟩=some (.int .i64 (n:Int))∧w'.cell? ⟨w.heap.size,4,none⟩=some (.int .u64 x.aO)∧w'.cell? ⟨w.heap.size,5,none⟩=some (.bool x.closed))) ?_ fun hS=> ?_
 ·exact⟨HQ.out _ hb3.drew 3,HQ.out _ hb3.drew 4,HQ.out _ hb3.drew 5⟩
 refine dJ 0 hS ?_
 refine dJ 1 hS ?_
 refine dJ 2 hS ?_
 refine dJ 4 hS ?_
 refine dJ 5 hS ?_
 refine dJ 7 hS ?_
 refine dJ 8 hS ?_
 refine sw 3 fun K hK=> ?_
 go_simp
 (with_reducible refine(Om.out _ _ _ _ Sj).mono ?_)
 rintro e w4 ⟨a4,c4,rfl,Ir,Ng⟩
 have hb4:Below wa.heap.size wa w4:=hb3.drew.trans (Ng.mono hb3.size)
 go_simp
 refine sD hK (⟨HQ.out _ hb4 3,HQ.out _ hb4 4,HQ.out _ hb4 5⟩) fun hS=> ?_
 clear hK K
 refine sw 6 fun K hK=> ?_
 go_simp
 (with_reducible refine(TF.out _ _ _ _ Ir).mono ?_)
 rintro e w5 ⟨a5,c5,rfl,hown5,Px⟩
 have hb5:Below wa.heap.size wa w5:=hb4.trans (Px.mono hb4.size)
 go_simp
 refine sD hK (⟨HQ.out _ hb5 3,HQ.out _ hb5 4,HQ.out _ hb5 5⟩) fun hS=> ?_
 clear hK K
 refine sw 9 fun K hK=> ?_
 go_simp
 (with_reducible refine(ME.out _ _ _ _ hown5).mono ?_)
 rintro e w6 ⟨a6,c6,rfl,hown6,Py⟩
 have hb6:Below wa.heap.size wa w6:=hb5.trans (Py.mono hb5.size)
 go_simp
 refine sD hK (⟨HQ.out _ hb6 3,HQ.out _ hb6 4,HQ.out _ hb6 5⟩) fun hS=> ?_
 clear hK K
 refine sw 10 fun K hK=> ?_
 go_simp
 refine sD hK (⟨HQ.out _ hb6 3,HQ.out _ hb6 4,HQ.out _ hb6 5⟩) fun hS=> ?_
 clear hK K
 refine KP ?_
 go_wp2_with fail
 go_ret
 exact⟨a6,c6,rfl,zy hown6 (by have:=hb5.size;have:=Io.out.size;omega),Io.out.trans (hb6.mono Io.out.size)⟩
end Go.Proofs.YtjnhnlabpccgjaaGreat
namespace Go.Proofs
open Go.RowKit Go.Maps Go.Sort Go.Shelf
set_option maxHeartbeats 1000000 in
theorem Tryz.GH (w:World):Calls Tryz.prog 62 #[.func (.func 128) #[] #[.pointer (some ⟨w.heap.size,0,none⟩)]] (w.alloc (.cells #[.map none] 110)) fun e w'=>e= .returned (.slice none 0 0)∧Below (w.alloc (.cells #[.map none] 110)).heap.size (w.alloc (.cells #[.map none] 110)) w':=by
 have hseq:SeqGives Fence.wide 2 Tryz.prog 128 #[.pointer (some ⟨w.heap.size,0,none⟩)] encStr (fun ss:List (List UInt8)=>ss=[]) 0 (w.alloc (.cells #[.map none] 110)):=
  AnyZ.keys_gives_nil (ρ:=Tryz.vS) {Tryz.Mk with} Fence.wide _ trivial rfl w.heap.size _ (by simp) (by simp)
 have h:=callsIn_wide.1 (AnyZ.sorted_in Tryz.Ih Fence.wide 5 trivial trivial trivial trivial rfl (by omega) (Tryz.Ml _) (enters_of Tryz.func127 (by kernel_rfl) rfl) 128 #[.pointer (some ⟨w.heap.size,0,none⟩)] trivial (enters_of Tryz.func128 (by kernel_rfl) rfl) _ 0 (Nat.zero_le _) (by omega) _ hseq)
 refine h.mono ?_
 rintro e w' ⟨v,ss,rfl,rfl,hrow,hnil,hb⟩
 obtain rfl:v= .slice none 0 0:=hnil.2 rfl
 exact⟨rfl,hb⟩
end Go.Proofs
namespace Go.Proofs.YtjnhnlabpccgjaaGreat
open Go.ChangeShapes Go.WideShapes Go.ChangeAt Go.RowKit
set_option linter.unusedVariables false
set_option linter.unusedSimpArgs false
def Pz (w:World) (L:List Nm) (e:Ending) (w':World):Prop:=
 ∃a c,e= .returned (.slice a L.length c)∧L.length≤c∧aP (fun x=>w.heap.size≤x∧x<w'.heap.size) w' a L.length (L.map strOf)∧Below w.heap.size w w'
section
variable {g:Nat→Own} {D:Nat→Prop} {p mb:Nat} {ib nb:Int→Nat} {T:aF}
set_option maxHeartbeats 1000000 in
theorem sorted_at (k:Int) (x:bA) (w:World) (h:aH g D w p mb ib nb T) (hT:OkW T) (hx:ah k T=some x) (ug:x.names.length≤65535):
  Calls Tryz.prog 62 #[.func (.func 128) #[] #[.pointer (some ⟨w.heap.size,0,none⟩)]] (w.alloc (.cells #[fD x (nb k)] 110)) (Pz (w.alloc (.cells #[fD x (nb k)] 110)) (x.names.map (·.1))):=by
 have O1:=hT.each k x hx
 by_cases hk:x.kind=2
 ·have e2:fD x (nb k)= .map (some (nb k)):=if_pos hk
  rw[e2]
  have hM:=(h.item k x hx).names hk
  have hsz:(bL x).length=x.names.length:=List.length_map _
  refine(Tryz.Ba (nb k) (bL x).length (tL cK (bL x)) lM w hM (by rw[jY,hsz];unfold maxLen;omega) (by rw[jY,hsz];omega)).mono ?_
  rintro e w' ⟨v,ss,rfl,hp,hown,hnil,hB⟩
  rw[wP]at hp
  have hml:(bL x).map (·.1)=x.names.map (·.1):=by unfold bL;rw[List.map_map];rfl
  rw[hml]at hp
  rw[uH O1.sorted hp]at hown
  have hlen:ss.length=(x.names.map (·.1)).length:=hp.length_eq
  have hgood:∀s∈(x.names.map (·.1)).map strOf,s.size≤maxLen:=by
   intro s hs
   obtain⟨l,hl,rfl⟩:=List.mem_map.1 hs
   obtain⟨e,he,rfl⟩:=List.mem_map.1 hl
   have:=nT _ (O1.good e he)
   rw[eT];unfold maxLen;omega
  obtain⟨a,c,rfl,hc⟩:=gU hown
  obtain⟨_,hr⟩:=aj.jI hown
  rw[hlen]at hr hc
  have hr2:aj (fun x_1=>(w.alloc (.cells #[.map (some (nb k))] 110)).heap.size≤x_1∧x_1<w'.heap.size) w' a (x.names.map (·.1)).length (((x.names.map (·.1)).map strOf).map .string):=by
   rw[List.map_map]
   exact hr
  exact⟨a,c,by rw[hlen],hc,⟨hr2,hgood⟩,hB⟩
 ·have e2:fD x (nb k)= .map none:=if_neg hk
  have hnil:x.names=[]:=O1.file (O1.kind.resolve_right hk)
  rw[e2,hnil]
  refine(Tryz.GH w).mono ?_
  rintro e w' ⟨rfl,hB⟩
  exact⟨none,0,rfl,Nat.le_refl _,⟨aj.nil _ _ _,by simp⟩,hB⟩
end
end Go.Proofs.YtjnhnlabpccgjaaGreat
