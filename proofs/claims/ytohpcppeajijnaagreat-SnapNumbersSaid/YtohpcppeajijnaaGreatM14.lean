/- package codec: the writer. package codec: Short, Byte, Long, Flag, Raw, Bytes, Done, NewWriter. node.Right, node.Encode. Names that go: what holds of a tree behind Unlink, Rmdir; where a path's name stands. -/
import Derived.Test.YtohpcppeajijnaaGreatM13
import Derived.Test.YtohpcppeajijnaaGreatM08
import Derived.WalkLawsBesides
import Derived.Deep.CutBlock
import Derived.Deep.DeepCutAuto
import Derived.Test.YtohpcppeajijnaaGreatM11
import Derived.Test.YtohpcppeajijnaaGreatM09
namespace Go.Proofs.YtohpcppeajijnaaGreat
open Go.ChangeShapes Go.WideShapes Go.ChangeAt Go.RowKit
set_option linter.unusedVariables false
set_option linter.unusedSimpArgs false
def dU (n:Int):Nat→List UInt8
 |0=>[]
 |s+1=>UInt8.ofNat ((n/2^(8*s)).toNat%256)::dU n s
structure bO (B:Nat) (w:World) (x:Nat) (v:Value) (bs:List UInt8):Prop where
 head:w.heap[x]? =some (.cells #[v] 181 (0,0))
 own:w.ownsRow B 5 1 v bs.length (bs.map bv)
 low:B≤x
 apart:v.ownBlock≠some x
def iB (B:Nat) (w:World) (x:Nat) (v:Value) (bs:List UInt8) (v':Value) (w':World):Prop:=
 bO B w' x v' bs∧Keeps (fun b=>b=x∨v.ownBlock=some b) w w'∧∀b,v'.ownBlock=some b→v.ownBlock=some b∨w.heap.size≤b
def lW (B:Nat) (w:World) (x:Nat) (v:Value) (bs:List UInt8) (e:Ending) (w':World):Prop:=e= .returned (.tuple #[])∧∃v',iB B w x v bs v' w'
section
variable {B x:Nat} {w w1 w2:World} {v v1 v2:Value} {bs bs1 Zu:List UInt8}
theorem bO.lt (h:bO B w x v bs):x<w.heap.size:=(Array.getElem?_eq_some_iff.1 h.head).1
theorem bO.cell (h:bO B w x v bs):w.cell? ⟨x,0,none⟩=some v:=by simp[World.cell?,h.head]
theorem bO.frozen (h:bO B w x v bs):w.frozen? ⟨x,0,none⟩=false:=by simp[World.frozen?,h.head]
theorem bO.kept (h:bO B w x v bs) (hs:w.heap.size≤w1.heap.size) (hx:w1.heap[x]? =w.heap[x]?) (hv:∀b,v.ownBlock=some b→w1.heap[b]? =w.heap[b]?):bO B w1 x v bs:=
 ⟨hx.trans h.head,bY h.own fun b hb _=>hv b hb,h.low,h.apart⟩
theorem bO.below (h:bO B w x v bs) (hb:Below w.heap.size w w1):bO B w1 x v bs:=
 h.kept hb.size (hb.block x h.lt) fun b hb'=>hb.block b (jF h.own b hb')
theorem iB.refl (h:bO B w x v bs):iB B w x v bs v w:=⟨h,Keeps.refl _ _,fun b hb=> .inl hb⟩
theorem iB.trans (h:iB B w x v bs1 v1 w1) (k:iB B w1 x v1 Zu v2 w2):iB B w x v Zu v2 w2:=by
 obtain⟨h1,h2,h3⟩:=h
 obtain⟨k1,k2,k3⟩:=k
 have hs:=h2.size
 refine⟨k1,h2.trans k2 fun b hb hb1=> ?_,fun b hb=> ?_⟩
 ·rcases hb1 with h4|h4
  ·exact .inl h4
  ·rcases h3 b h4 with h5|h5
   ·exact .inr h5
   ·omega
 ·rcases k3 b hb with h4|h4
  ·exact h3 b h4
  ·exact .inr (by omega)
theorem iB.below (h:iB B w x v bs v1 w1) (hb:Below w1.heap.size w1 w2):iB B w x v bs v1 w2:=by
 obtain⟨h1,h2,h3⟩:=h
 exact⟨h1.below hb,h2.trans (Keeps.below hb) (fun b hb' hf=>by have:=h2.size;omega),h3⟩
end
theorem D9 {B x:Nat} {wr wa u1:World} {v1 v2:Value} {bs bs':List UInt8} (h:bO B wr x v1 bs) (ha:Below wr.heap.size wr wa) (hown:u1.ownsRow B 5 1 v2 bs'.length (bs'.map bv)) (hg:wa.grownBy u1 v1.ownBlock) (hat:v2.ownBlock=v1.ownBlock∨v2.ownBlock=some wa.heap.size):iB B wr x v1 bs' v2 (u1.setCell ⟨x,0,none⟩ v2):=by
 have hx:=h.lt
 have hs1:=ha.size
 have hs2:=hg.size
 have hxb:u1.heap[x]? =some (.cells #[v1] 181 (0,0)):=(hg.block x (by omega) (fun e=>h.apart e.symm)).trans ((ha.block x hx).trans h.head)
 have hap:v2.ownBlock≠some x:=by
  rcases hat with h1|h1
  ·rw[h1];exact h.apart
  ·rw[h1]
   intro e
   simp only[Option.some.injEq]at e
   omega
 refine⟨⟨?_,bY hown fun b hb hbw=>aP u1 _ _ _ (fun e=>hap (by rw[hb,e])),h.low,hap⟩,⟨hg.os.trans ha.os,hg.tape.trans ha.tape,hg.output.trans ha.output,by rw[size_set];omega,fun b hb hn=> ?_⟩,fun b hb=> ?_⟩
 ·simp only[World.setCell,Array.getElem?_modify,hxb]
  simp
 ·have h1:b≠x:=fun e=>hn (.inl e)
  have h2:v1.ownBlock≠some b:=fun e=>hn (.inr e)
  exact(aP u1 _ _ _ h1).trans ((hg.block b (by omega) (fun e=>h2 e.symm)).trans (ha.block b hb))
 ·rcases hat with h1|h1
  ·exact .inl (h1▸hb)
  ·rw[h1]at hb
   cases hb
   exact .inr hs1
theorem jG {n:Int} (hn:0≤n) (k:Nat):IntKind.u8.wrap (n/2^(8*(k:Int)).toNat)=((UInt8.ofNat ((n/2^(8*k)).toNat%256)).toNat:Int):=by
 have e1:(8*(k:Int)).toNat=8*k:=by omega
 rw[e1]
 have h0:0≤n/2^(8*k):=Int.ediv_nonneg hn (Int.pow_nonneg (by decide))
 generalize n/2^(8*k)=y at h0
 have h1:(UInt8.ofNat (y.toNat%256)).toNat=y.toNat%256:=by simp
 rw[h1]
 simp only[IntKind.wrap,IntKind.bits,IntKind.signed]
 simp
 omega
set_option maxRecDepth 100000 in
set_option maxHeartbeats 4000000 in
theorem yV {B x:Nat} {w:World} {v:Value} {bs:List UInt8} (h:bO B w x v bs) (n:Int) (s:Nat) (hn:0≤n) (hn':n≤18446744073709551615) (hs:s≤8) (hl:bs.length≤100000000):
  Calls Tryz.prog 131 #[ptr x, .int .u64 n, .int .i64 s] w (lW B w x v (bs++dU n s)):=by
 obtain⟨i8,hi⟩:∃i,Tryz.prog.info? 5=some i∧i.zero=some (.int .u8 0)∧i.size=1∧i.bytes=1:=info_parts (by kernel_rfl)
 have HI:=Lib.hid hi
 have HW:=Lib.hid h
 clear h hi
 go_enter Tryz.func131,Tryz.ntmps131
 go_wp2
 go_loopw [6] (fun kv wr=>∃(k:Nat) (dn:List UInt8) (v1:Value),k≤s∧kv= .int .i64 ((k:Int)-1)∧dn++dU n k=dU n s∧dn.length+k=s∧iB B w x v (bs++dn) v1 wr) (fun kv _=>((intOf kv)+1).toNat)
 case atStart=>exact⟨s,[],v,Nat.le_refl _,by go_num,rfl,by simp,by simpa using iB.refl HW.out⟩
 case round=>
  obtain⟨k,dn,v1,hk,rfl,hdn,hdl,hm⟩:=hrel
  have HM:=Lib.hid hm
  have c0:=hm.1.cell
  have f0:=hm.1.frozen
  clear hm
  cases k with
  |zero=>
   have xZ:=Lib.hid hdn
   have e0:((0:Nat):Int)-1= -1:=by omega
   rw[e0]
   clear hdn
   go_wp2_with fail
   go_end0
   refine⟨rfl,v1,?_⟩
   have h9:=xZ.out
   unfold dU at h9
   rw[List.append_nil]at h9
   cases s with
   |zero=>
    have:dn=[]:=List.eq_nil_of_length_eq_zero (by omega)
    subst this
    exact HM.out
   |succ s=>
    rw[←show dn=dU n (s+1)from by rw[h9];rfl]
    exact HM.out
  |succ k=>
   have hk0:(0:Int)≤k:=by omega
   have e1:((k+1:Nat):Int)-1=(k:Int):=by omega
   rw[e1]
   have e2:IntKind.i64.wrap (8*(k:Int))=8*(k:Int):=IntWalk.i64_in _ (by omega)
   have hge:decide ((0:Int)≤(k:Int))=true:=by simp
   have hbw:=jG hn k
   obtain⟨b0,hb0⟩:∃b0,b0=UInt8.ofNat ((n/2^(8*k)).toNat%256):=⟨_,rfl⟩
   rw[←hb0]at hbw
   have HB0:=Lib.hid hb0
   have xZ:=Lib.hid hdn
   have gq:Hid (∀w',Below wr.heap.size wr w'→w'.cell? ⟨x,0,none⟩=some v1∧w'.frozen? ⟨x,0,none⟩=false):=fun w' hb=>⟨(HM.out.1.below hb).cell,(HM.out.1.below hb).frozen⟩
   obtain⟨N,hN⟩:∃N,N=(bs++dn).length:=⟨_,rfl⟩
   have Wm:N≤100000008:=by rw[hN,List.length_append];omega
   have HOW:Hid (wr.ownsRow B 5 1 v1 N ((bs++dn).map bv)):=by rw[hN];exact HM.out.1.own
   have xV:=Lib.hid hN
   have hBw:B≤wr.heap.size:=Nat.le_of_lt (Nat.lt_of_le_of_lt HM.out.1.low HM.out.1.lt)
   clear hb0 hdn hN
   go_wp2_with fail
   refine wp_region_noPanic ?_
   refine aH (last:=14) (S:=(fun w'=>w'.cell? ⟨x,0,none⟩=some v1∧w'.frozen? ⟨x,0,none⟩=false)) (by kernel_rfl) ?_ (fun hS=> ?_)
   ·exact gq.out _ (Below.refl _ _).drew
   refine aC 0 (hS:=hS) (h:= ?_)
   refine aC 1 (hS:=hS) (h:= ?_)
   refine aC 2 (hS:=hS) (h:= ?_)
   refine aC 3 (hS:=hS) (h:= ?_)
   refine aC 4 (hS:=hS) (h:= ?_)
   refine aC 5 (hS:=hS) (h:= ?_)
   refine aC 6 (hS:=hS) (h:= ?_)
   refine aC 7 (hS:=hS) (h:= ?_)
   refine aC 8 (hS:=hS) (h:= ?_)
   refine aC 9 (hS:=hS) (h:= ?_)
   refine dh 10 (h:=fun K hK=> ?_)
   go_simp
   have sI:Below wr.heap.size wr (wr.drew.alloc (.cells #[bv b0] 5)):=(Below.refl _ _).drew.alloc (Nat.le_refl _) _
   refine hK.out _ _ (fun _=>gq.out _ sI) (fun hS=> ?_)
   replace hS:=hS (by decide)
   clear hK K
   try simp only[Act.put,List.setIfInBounds_toArray,List.set_cons_zero,List.set_cons_succ]
   refine aj (rs:=[11]) (by kernel_rfl) (by simp) ?_
   refine ah.cons (o:= ?o1) ?ho1 (fun K hK=> ?_) ah.nil
   case ho1=>simp only[List.getElem?_toArray,List.getElem?_cons_succ,List.getElem?_cons_zero];rfl
   refine uq (by rfl) (.tmp 17) (.tmp 23) 39 (by rfl) B 5 i8 _ 1 Tryz.underlying39 HI.out.1 HI.out.2.1 HI.out.2.2.1 HI.out.2.2.2 rfl v1 N ((bs++dn).map bv) (by rfl) (bY HOW.out fun b hb hbw=>sI.block b hbw) (some ⟨wr.heap.size,0,none⟩) 1 1 [bv b0] (by rfl) (uN (w:=wr.drew) (bv b0) 5) (by simp[bv,Value.oneCell']) (by unfold maxLen;omega) (by omega) (by simp;omega) ?_
   intro A1 c1 u1 hown1 hg1 _ nZ
   have Ms:u1.heap[x]? =some (.cells #[v1] 181 (0,0)):=(hg1.block x (Nat.lt_of_lt_of_le HM.out.1.lt sI.size) (fun e=>HM.out.1.apart e.symm)).trans ((sI.block x HM.out.1.lt).trans HM.out.1.head)
   have hu:u1.cell? ⟨x,0,none⟩=some v1∧u1.frozen? ⟨x,0,none⟩=false:=⟨by simp[World.cell?,Ms],by simp[World.frozen?,Ms]⟩
   refine hK.out _ _ (fun _=>hu) (fun hS=> ?_)
   replace hS:=hS (by decide)
   clear hK K
   try simp only[Act.put,List.setIfInBounds_toArray,List.set_cons_zero,List.set_cons_succ]
   refine aC 12 (hS:=hS) (h:= ?_)
   refine aC 13 (hS:=hS) (h:= ?_)
   refine dh 14 (h:=fun K hK=> ?_)
   go_simp
   refine hK.out _ _ (fun h=>absurd rfl h) (fun hS=> ?_)
   clear hS hK K
   try simp only[Act.put,List.setIfInBounds_toArray,List.set_cons_zero,List.set_cons_succ]
   refine aG (by kernel_rfl) ?_ _
   refine NoPanic.normal ?_
   go_wp2
   go_roundw
   case rel=>
    refine⟨k,dn++[b0], .slice A1 (N+1) c1,by omega,by go_num,?_,by simp;omega,HM.out.trans (D9 HM.out.1 sI ?_ hg1 nZ)⟩
    ·rw[List.append_assoc,←xZ.out,HB0.out]
     rfl
    ·have h9:(bs++(dn++[b0])).length=N+1:=by rw[xV.out];simp;omega
     rw[h9]
     simpa using hown1
   case measure=>simp[intOf]
theorem mK (w:World):Calls Tryz.prog 82 #[] w fun e w'=>e= .returned (ptr w.heap.size)∧bO w.heap.size w' w.heap.size (.slice none 0 0) []∧Below w.heap.size w w':=by
 go_enter Tryz.func82,Tryz.ntmps82
 go_wp2
 go_ret
 exact⟨rfl,⟨(MapKept.heap_alloc w _).1,⟨rfl, .inl ⟨rfl,rfl⟩⟩,Nat.le_refl _,by simp[Value.ownBlock]⟩,wall w _⟩
section
variable {B x:Nat} {w:World} {v:Value} {bs:List UInt8}
theorem iB.low {bs':List UInt8} {v':Value} {w':World} (h:iB B w x v bs' v' w') (h0:bO B w x v bs):Below B w w':=
 h.2.1.iH (Nat.le_of_lt (Nat.lt_of_le_of_lt h0.low h0.lt)) fun b hb hf=>by
  rcases hf with h1|h1
  ·have:=h0.low;omega
  ·have:=bC h0.own b h1;omega
theorem jH (h:bO B w x v bs) (n:Int) (hn0:0≤n) (hn:n≤1000000000) (hl:bs.length≤100000000):Calls Tryz.prog 83 #[ptr x, .int .i64 n] w (lW B w x v (bs++dU n 2)):=by
 have HP:Hid (Calls Tryz.prog 131 #[ptr x, .int .u64 n, .int .i64 2] w (lW B w x v (bs++dU n 2))):=yV h n 2 (by omega) (by omega) (by omega) hl
 have e1:IntKind.u64.wrap n=n:=by simp[IntKind.wrap,IntKind.bits,IntKind.signed];omega
 clear h
 go_enter Tryz.func83,Tryz.ntmps83
 go_wp2_with fail
 (with_reducible refine HP.out.mono ?_)
 rintro e w1 ⟨rfl,v1,hm⟩
 go_wp2_with fail
 go_end0
 exact⟨rfl,v1,hm⟩
theorem qZ (h:bO B w x v bs) (n:Int) (hn0:0≤n) (hn:n≤1000000000) (hl:bs.length≤100000000):Calls Tryz.prog 119 #[ptr x, .int .i64 n] w (lW B w x v (bs++dU n 1)):=by
 have HP:Hid (Calls Tryz.prog 131 #[ptr x, .int .u64 n, .int .i64 1] w (lW B w x v (bs++dU n 1))):=yV h n 1 (by omega) (by omega) (by omega) hl
 have e1:IntKind.u64.wrap n=n:=by simp[IntKind.wrap,IntKind.bits,IntKind.signed];omega
 clear h
 go_enter Tryz.func119,Tryz.ntmps119
 go_wp2_with fail
 (with_reducible refine HP.out.mono ?_)
 rintro e w1 ⟨rfl,v1,hm⟩
 go_wp2_with fail
 go_end0
 exact⟨rfl,v1,hm⟩
theorem ru (h:bO B w x v bs) (n:Int) (hn:0≤n) (hn':n≤18446744073709551615) (hl:bs.length≤100000000):Calls Tryz.prog 118 #[ptr x, .int .u64 n] w (lW B w x v (bs++dU n 8)):=by
 have HP:Hid (Calls Tryz.prog 131 #[ptr x, .int .u64 n, .int .i64 8] w (lW B w x v (bs++dU n 8))):=yV h n 8 hn hn' (by omega) hl
 clear h
 go_enter Tryz.func118,Tryz.ntmps118
 go_wp2_with fail
 (with_reducible refine HP.out.mono ?_)
 rintro e w1 ⟨rfl,v1,hm⟩
 go_wp2_with fail
 go_end0
 exact⟨rfl,v1,hm⟩
def rz (f:Bool):List UInt8:=dU (if f then 1 else 0) 1
theorem IC (h:bO B w x v bs) (f:Bool) (hl:bs.length≤100000000):Calls Tryz.prog 135 #[ptr x, .bool f] w (lW B w x v (bs++rz f)):=by
 have pR:=Lib.hid (qZ h 1 (by omega) (by omega) hl)
 have HP0:=Lib.hid (qZ h 0 (by omega) (by omega) hl)
 clear h
 cases f
 ·have HQ:Hid (Calls Tryz.prog 119 #[ptr x, .int .i64 0] w (lW B w x v (bs++rz false))):=HP0.out
  go_enter Tryz.func135,Tryz.ntmps135
  go_wp2_with fail
  (with_reducible refine HQ.out.mono ?_)
  rintro e w1 ⟨rfl,v1,hm⟩
  go_wp2_with fail
  go_end0
  exact⟨rfl,v1,hm⟩
 ·have HQ:Hid (Calls Tryz.prog 119 #[ptr x, .int .i64 1] w (lW B w x v (bs++rz true))):=pR.out
  go_enter Tryz.func135,Tryz.ntmps135
  go_wp2_with fail
  (with_reducible refine HQ.out.mono ?_)
  rintro e w1 ⟨rfl,v1,hm⟩
  go_wp2_with fail
  (try simp only[Exit.inBlock,Exit.then])
  refine bodyPost_ret (results_none rfl _ _ _) rfl ?_
  exact⟨rfl,v1,hm⟩
theorem Cn {u1:World} (h:bO B w x v bs) (hg:w.grownBy u1 v.ownBlock):u1.cell? ⟨x,0,none⟩=some v∧u1.frozen? ⟨x,0,none⟩=false:=by
 have Ms:=(hg.block x h.lt (fun e=>h.apart e.symm)).trans h.head
 exact⟨by simp[World.cell?,Ms],by simp[World.frozen?,Ms]⟩
theorem D_ {S:Nat→Prop} (h:bO B w x v bs) (a:Option Addr) (m c:Nat) (l:List UInt8) (hr:ak S w a m (l.map bv)) (hl:bs.length≤100000000) (hm:m≤100000000):Calls Tryz.prog 120 #[ptr x, .slice a m c] w (lW B w x v (bs++l)):=by
 obtain⟨i8,hi⟩:∃i,Tryz.prog.info? 5=some i∧i.zero=some (.int .u8 0)∧i.size=1∧i.bytes=1:=info_parts (by kernel_rfl)
 have HI:=Lib.hid hi
 have HW:=Lib.hid h
 have HR:=Lib.hid hr
 have c0:=h.cell
 have f0:=h.frozen
 have hBw:B≤w.heap.size:=Nat.le_of_lt (Nat.lt_of_le_of_lt h.low h.lt)
 have hlm:l.length=m:=by simpa using hr.length
 have Vq:=Lib.hid hlm
 clear h hi hr hlm
 obtain⟨N,hN⟩:∃N,N=bs.length:=⟨_,rfl⟩
 have HOW:Hid (w.ownsRow B 5 1 v N (bs.map bv)):=by rw[hN];exact HW.out.own
 have xV:=Lib.hid hN
 rw[←hN]at hl
 clear hN
 have hxw:=HW.out.lt
 go_enter Tryz.func120,Tryz.ntmps120
 go_wp2_with (at_builtin;refine aO rfl _ _ 39 rfl B 5 i8 _ 1 Tryz.underlying39 HI.out.1 HI.out.2.1 HI.out.2.2.1 HI.out.2.2.2 rfl v N (bs.map bv) rfl HOW.out a m c (l.map bv) rfl HR.out (bU l) (by unfold maxLen;omega) (by omega) hBw ?_;intro A1 c1 u1 hown1 hg1 _ nZ;have Ms:=Cn HW.out hg1;have hcx:=Ms.1;have hfx:=Ms.2;clear Ms)
 go_end0
 refine⟨rfl,_,D9 (wa:=w) HW.out (Below.refl _ _) ?_ hg1 nZ⟩
 have h9:(bs++l).length=N+m:=by rw[List.length_append,←xV.out,Vq.out]
 rw[h9,List.map_append]
 exact hown1
set_option maxHeartbeats 1000000 in
theorem rA {S:Nat→Prop} (h:bO B w x v bs) (a:Option Addr) (m c:Nat) (l:List UInt8) (hr:ak S w a m (l.map bv)) (hS:∀b,S b→b≠x∧v.ownBlock≠some b) (hc:m≤c) (hl:bs.length≤90000000) (hm:m≤65535):Calls Tryz.prog 86 #[ptr x, .slice a m c] w (lW B w x v (bs++(dU m 2++l))):=by
 have HS:=Lib.hid (jH h (m:Int) (by omega) (by omega) (by omega))
 have HW:=Lib.hid h
 have HRR:=Lib.hid hr
 have Zv:=Lib.hid hS
 have e1:min (m:Int) 65535=(m:Int):=by omega
 have h0:(0:Int)≤(m:Int):=by omega
 have h1:(m:Int)≤(c:Int):=by omega
 clear h hr hS
 go_enter Tryz.func86,Tryz.ntmps86
 go_wp2_with fail
 (with_reducible refine HS.out.mono ?_)
 rintro e w1 ⟨rfl,v1,hm1⟩
 have HM:=Lib.hid hm1
 have hr1:ak S w1 a m (l.map bv):=HRR.out.kept hm1.2.1.size fun b hb hbw=>hm1.2.1.block b hbw fun hf=>by
  rcases hf with h4|h4
  ·exact(Zv.out b hb).1 h4
  ·exact(Zv.out b hb).2 h4
 have HRW:=Lib.hid (D_ hm1.1 a m c l hr1 (by rw[List.length_append];have:(dU (m:Int) 2).length=2:=rfl;omega) (by omega))
 clear hm1 hr1
 go_wp2_with fail
 (with_reducible refine HRW.out.mono ?_)
 rintro e w2 ⟨rfl,v2,hm2⟩
 go_wp2_with fail
 go_end0
 refine⟨rfl,v2,?_⟩
 have:=HM.out.trans hm2
 rw[List.append_assoc]at this
 exact this
theorem vI (h:bO B w x v bs) (hl:bs.length≤100000000):Calls Tryz.prog 89 #[ptr x] w (kC w bs):=by
 obtain⟨a,c,rfl,hc⟩:=bQ h.own
 obtain⟨_,hr⟩:=ak.ku h.own
 have HC:=Lib.hid (Ci a bs.length c bs w (by omega) hr)
 have c0:=h.cell
 clear h hr
 go_enter Tryz.func89,Tryz.ntmps89
 go_wp2_with fail
 (with_reducible refine HC.out.mono ?_)
 rintro e w1 ⟨a1,n1,c1,rfl,hn1,hr1,hb1⟩
 go_wp2_with fail
 go_ret
 exact⟨a1,n1,c1,rfl,hn1,hr1,hb1⟩
end
set_option maxHeartbeats 2000000 in
theorem Co (k:Int) (x:bf) (h1:DY x) (hk:0≤k) (hk':k≤65535) (w:World):Calls Tryz.prog 134 #[kH k x] w fun e w'=>e= .returned (.bool true)∧Below w.heap.size w w':=by
 obtain⟨l0,l1⟩:=h1.links
 obtain⟨t0,t1⟩:=h1.aS
 have hb:=h1.size
 obtain⟨n,hn⟩:∃n,n=x.b.length:=⟨_,rfl⟩
 rw[←hn]at hb
 have d1:decide (k<0)=false:=by simpa using hk
 have d2:decide (65535<k)=false:=by simpa using hk'
 have d3:decide (x.links<0)=false:=by simpa using l0
 have d4:decide (65535<x.links)=false:=by simp;omega
 have d5:decide ((n:Int)≤4096)=true:=by simp;omega
 have d6:decide (x.aS≤1099511627776)=true:=by simpa using t1
 have d7:decide ((0:Int)≤(n:Int))=true:=by simp
 unfold kH
 rw[←hn]
 by_cases hk2:x.kind=2
 ·obtain⟨_,hcl,hbn,htl⟩:=h1.dir hk2
  have hn0:n=0:=by rw[hn,hbn];rfl
  subst hn0
  rw[hk2,hcl,htl]
  clear hn h1 hk2 hcl hbn htl d6
  go_enter Tryz.func134,Tryz.ntmps134
  go_wp2
  all_goals (first|(go_ret;exact⟨rfl,wall w _⟩)|((try simp only[Exit.inBlock,Exit.then]);refine bodyPost_ret (by rfl) rfl ?_;exact⟨rfl,wall w _⟩))
 ·have hk1:=h1.kind.resolve_right hk2
  rw[hk1]
  clear hn h1 hk2 hk1
  go_enter Tryz.func134,Tryz.ntmps134
  go_wp2
  all_goals (first|(go_ret;exact⟨rfl,wall w _⟩)|((try simp only[Exit.inBlock,Exit.then]);refine bodyPost_ret (by rfl) rfl ?_;exact⟨rfl,wall w _⟩))
def oH (k:Int) (x:bf):List UInt8:=dU k 2++dU x.kind 1++dU x.links 2++dU x.b.length 2++dU x.aS 8++rz x.closed
theorem bJ (n:Int):∀s,(dU n s).length=s
 |0=>rfl
 |s+1=>by unfold dU;rw[List.length_cons,bJ n s]
theorem jm (k:Int) (x:bf):(oH k x).length=16:=by
 unfold oH rz
 simp only[List.length_append,bJ]
set_option maxHeartbeats 4000000 in
theorem Cq (k:Int) (x:bf) (h1:DY x) (hk:0≤k) (hk':k≤65535) (w:World):Calls Tryz.prog 85 #[kH k x] w fun e w'=>∃a n c,e= .returned (.tuple #[.slice a n c, .int .i64 0])∧n≤c∧ak (fun b=>w.heap.size≤b∧b<w'.heap.size) w' a n ((oH k x).map bv)∧Below w.heap.size w w':=by
 have HR:=Lib.hid (fun w'=>Co k x h1 hk hk' w')
 obtain⟨l0,l1⟩:=h1.links
 obtain⟨t0,t1⟩:=h1.aS
 have hb:=h1.size
 have hkd:0≤x.kind∧x.kind≤2:=by rcases h1.kind with h|h<;>omega
 obtain⟨Zw,kd1⟩:=hkd
 unfold oH
 obtain⟨n,hn⟩:∃n:Nat,n=x.b.length:=⟨_,rfl⟩
 rw[←hn]at hb
 unfold kH at HR⊢
 rw[←hn]at HR⊢
 clear h1 hn
 go_enter Tryz.func85,Tryz.ntmps85
 go_wp2_with fail
 (with_reducible refine(HR.out _).mono ?_)
 rintro e w1 ⟨rfl,hb1⟩
 have hsa:(w.alloc (.cells #[.int .i64 k, .int .i64 x.kind, .int .i64 x.links, .int .i64 n, .int .u64 x.aS, .bool x.closed] 98)).heap.size=w.heap.size+1:=by simp
 have hs1:=hb1.size
 have HQ:Hid (∀w',Below w1.heap.size w1 w'→∀j,w'.cell? ⟨w.heap.size,j,none⟩=(#[.int .i64 k, .int .i64 x.kind, .int .i64 x.links, .int .i64 n, .int .u64 x.aS, .bool x.closed]:Array Value)[j]?):=fun w' hb j=>by
  rw[hb.cell (p:=⟨w.heap.size,j,none⟩) (by simp only;omega),hb1.cell (p:=⟨w.heap.size,j,none⟩) (by simp)]
  exact f_ (MapKept.heap_alloc w _).1 j
 have HB1:=Lib.hid ((wall w (.cells #[.int .i64 k, .int .i64 x.kind, .int .i64 x.links, .int .i64 n, .int .u64 x.aS, .bool x.closed] 98)).trans (hb1.mono (by omega)))
 clear hb1 HR
 go_wp2_with fail
 (with_reducible refine(mK w1).mono ?_)
 rintro e w2 ⟨rfl,hW2,hb2⟩
 have HW2:=Lib.hid hW2
 have HB2:=Lib.hid hb2
 clear hW2 hb2
 have q0:w2.cell? ⟨w.heap.size,0,none⟩=some (.int .i64 k):=HQ.out _ HB2.out 0
 have Vr:=Lib.hid (jH HW2.out k (by omega) (by omega) (by simp only[List.length_append,List.length_nil,bJ];omega))
 go_wp2_with fail
 (with_reducible refine Vr.out.mono ?_)
 rintro e w3 ⟨rfl,v3,Av⟩
 have HW3:=Lib.hid Av.1
 have HB3:=Lib.hid (HB2.out.trans (Av.low HW2.out))
 clear q0 Av Vr HW2 HB2
 have q1:w3.cell? ⟨w.heap.size,1,none⟩=some (.int .i64 x.kind):=HQ.out _ HB3.out 1
 have kR:=Lib.hid (qZ HW3.out x.kind (by omega) (by omega) (by simp only[List.length_append,List.length_nil,bJ];omega))
 go_wp2_with fail
 (with_reducible refine kR.out.mono ?_)
 rintro e w4 ⟨rfl,v4,Mt⟩
 have n_:=Lib.hid Mt.1
 have kS:=Lib.hid (HB3.out.trans (Mt.low HW3.out))
 clear q1 Mt kR HW3 HB3
 have q2:w4.cell? ⟨w.heap.size,2,none⟩=some (.int .i64 x.links):=HQ.out _ kS.out 2
 have HS2:=Lib.hid (jH n_.out x.links (by omega) (by omega) (by simp only[List.length_append,List.length_nil,bJ];omega))
 go_wp2_with fail
 (with_reducible refine HS2.out.mono ?_)
 rintro e w5 ⟨rfl,v5,Cr⟩
 have yX:=Lib.hid Cr.1
 have lX:=Lib.hid (kS.out.trans (Cr.low n_.out))
 clear q2 Cr HS2 n_ kS
 have q3:w5.cell? ⟨w.heap.size,3,none⟩=some (.int .i64 n):=HQ.out _ lX.out 3
 have Aj:=Lib.hid (jH yX.out (n:Int) (by omega) (by omega) (by simp only[List.length_append,List.length_nil,bJ];omega))
 go_wp2_with fail
 (with_reducible refine Aj.out.mono ?_)
 rintro e w6 ⟨rfl,v6,IE⟩
 have Rt:=Lib.hid IE.1
 have yc:=Lib.hid (lX.out.trans (IE.low yX.out))
 clear q3 IE Aj yX lX
 have q4:w6.cell? ⟨w.heap.size,4,none⟩=some (.int .u64 x.aS):=HQ.out _ yc.out 4
 have nY:=Lib.hid (ru Rt.out x.aS (by omega) (by omega) (by simp only[List.length_append,List.length_nil,bJ];omega))
 go_wp2_with fail
 (with_reducible refine nY.out.mono ?_)
 rintro e w7 ⟨rfl,v7,IG⟩
 have Oc:=Lib.hid IG.1
 have uQ:=Lib.hid (yc.out.trans (IG.low Rt.out))
 clear q4 IG nY Rt yc
 have q5:w7.cell? ⟨w.heap.size,5,none⟩=some (.bool x.closed):=HQ.out _ uQ.out 5
 have xu:=Lib.hid (IC Oc.out x.closed (by simp only[List.length_append,List.length_nil,bJ];omega))
 go_wp2_with fail
 (with_reducible refine xu.out.mono ?_)
 rintro e w8 ⟨rfl,v8,Wn⟩
 have R4:=Lib.hid Wn.1
 have uw:=Lib.hid (uQ.out.trans (Wn.low Oc.out))
 clear q5 Wn xu Oc uQ
 have HD:=Lib.hid (vI R4.out (by simp only[List.length_append,List.length_nil,bJ,rz];omega))
 go_wp2_with fail
 (with_reducible refine HD.out.mono ?_)
 rintro e w9 ⟨a9,n9,c9,rfl,Od,Ea,uy⟩
 have Mv:=Lib.hid Ea
 have yg:=Lib.hid (uw.out.trans (uy.mono uw.out.size))
 have Eb:=uw.out.size
 have Wo:=Od
 clear Ea uy HD
 go_wp2_with fail
 go_ret2
 refine⟨a9,n9,c9,rfl,Wo,?_,HB1.out.trans (yg.out.mono HB1.out.size)⟩
 have h9:=Mv.out.mono (S':=fun b=>w.heap.size≤b∧b<w9.heap.size) fun b hb=>⟨by have:=HB1.out.size;omega,hb.2⟩
 simpa using h9
theorem rC (T:aI):∀(p q:List Nm) (a:Int),aY T a (p++q)=if (aY T a p).2=0 then aY T (aY T a p).1 q else aY T a p
 |[],q,a=>by simp[aY]
 |n::r,q,a=>by
  rcases Option.eq_none_or_eq_some (aF a T)with hx|⟨x,hx⟩
  ·simp[aY,hx]
  ·by_cases hk:x.kind=2
   ·rcases Option.eq_none_or_eq_some (aF n x.names)with hn|⟨k,hn⟩
    ·simp[aY,hx,hk,hn]
    ·simp only[List.cons_append,aY,hx,if_pos hk,hn]
     exact rC T r q k
   ·simp[aY,hx,hk]
theorem mM {T:aI} {p:List Nm} {id:Int} (h:aY T 0 p=(id,0)) (hp:p≠[]):∃d x n,aV T p=(d,n,0)∧aY T 0 p.dropLast=(d,0)∧aF d T=some x∧x.kind=2∧aF n x.names=some id∧n∈p∧p=p.dropLast++[n]:=by
 obtain⟨q,n,rfl⟩:∃q n,p=q++[n]:=⟨p.dropLast,p.getLast hp,(List.dropLast_concat_getLast hp).symm⟩
 rw[rC]at h
 have hd:(q++[n]).dropLast=q:=by simp
 have hl:(q++[n]).getLastD []=n:=by simp[List.getLastD_eq_getLast?]
 by_cases he:(aY T 0 q).2=0
 ·rw[if_pos he]at h
  obtain⟨⟨d,e0⟩,hq⟩:∃r,r=aY T 0 q:=⟨_,rfl⟩
  rw[←hq]at h he
  simp only at he
  subst he
  simp only[aY]at h
  cases hx:aF d T with
  |none=>rw[hx]at h;cases h
  |some x=>
   rw[hx]at h
   simp only at h
   by_cases hk:x.kind=2
   ·rw[if_pos hk]at h
    cases hn:aF n x.names with
    |none=>rw[hn]at h;cases h
    |some k=>
     rw[hn]at h
     simp only[Prod.mk.injEq,and_true]at h
     subst h
     refine⟨d,x,n,?_,by rw[hd,←hq],hx,hk,hn,by simp,by rw[hd]⟩
     unfold aV
     rw[if_neg hp,hd,hl,←hq,if_neg (by simp),if_pos ((jl hx).trans hk)]
   ·rw[if_neg hk]at h;cases h
 ·rw[if_neg he]at h
  rw[h]at he
  exact absurd rfl he
theorem II {α:Type} {κ:Type} [DecidableEq κ] {lt:κ→κ→Bool} (L:kg lt) (P:κ×α→Bool) {l:List (κ×α)} (hs:aJ lt l) {k:κ} {v:α} (hg:aF k l=some v):(bK k l).countP P+(if P (k,v)then 1 else 0)=l.countP P:=by
 induction l with
 |nil=>cases hg
 |cons y r ih=>
  have hp:=hs.apart L
  obtain⟨h1,h2⟩:=List.pairwise_cons.1 hp
  rw[eP]at hg
  have R5:bK k (y::r)=if y.1=k then bK k r else y::bK k r:=by
   unfold bK
   rw[List.filter_cons]
   by_cases hy:y.1=k<;>simp[hy]
  rw[R5]
  by_cases hy:y.1=k
  ·rw[if_pos hy]at hg
   rw[if_pos hy]
   cases hg
   have hr:bK k r=r:=by
    unfold bK
    rw[List.filter_eq_self]
    intro q hq
    have:=h1 q hq
    simp only[Bool.not_eq_true',decide_eq_false_iff_not]
    exact fun e=>this (hy.trans e.symm)
   have e:(k,y.2)=y:=by rw[←hy]
   rw[hr,List.countP_cons,e]
  ·rw[if_neg hy]at hg
   rw[if_neg hy,List.countP_cons,List.countP_cons]
   have:=ih (List.pairwise_cons.1 hs).2 hg
   omega
theorem OZ {x:bf} (h:DY x) {n:Nm} {id:Int} (hn:aF n x.names=some id) (k:Int):cn k {x with names:=bK n x.names}+(if id=k then 1 else 0)=cn k x:=by
 have:=II Ac (fun e:Nm×Int=>decide (e.2=k)) h.sorted hn
 unfold cn
 simp only[decide_eq_true_eq]at this
 exact this
theorem Mw {x:bf} (h:DY x) (n:Nm) (hk:x.kind=2):DY {x with names:=bK n x.names}:=by
 refine⟨h.kind,fun h1=> ?_,h.dir,h.gone,h.sorted.bK _,fun e he=>h.good e (List.mem_filter.1 he).1,h.size,h.links,h.aS⟩
 have:x.kind=1:=h1
 omega
theorem uK.cut {T:aI} (h:uK T) {d:Int} {x:bf} {n:Nm} (hx:aF d T=some x) (hk:x.kind=2):uK (aU T d n):=
 h.aT hx (Mw (h.each d x hx) n hk) rfl (fun e he=>h.leads d x hx e (List.mem_filter.1 he).1)
theorem uK.del {T:aI} (h:uK T) {k:Int} {x:bf} (hx:aF k T=some x) (h0:k≠0) (hc:fZ T k=0):uK (bK k T):=by
 have hget:∀j y,aF j (bK k T)=some y→j≠k∧aF j T=some y:=fun j y hy=>by
  rw[fF]at hy
  by_cases hj:j=k
  ·rw[if_pos hj]at hy;cases hy
  ·rw[if_neg hj]at hy;exact⟨hj,hy⟩
 refine⟨h.sorted.bK _,?_,fun j y hy=>h.each j y (hget j y hy).2,fun j y hy e he=> ?_,?_,fun j y hy=>h.ids j y (hget j y hy).2⟩
 ·have hr:=h.root
  unfold fG at hr⊢
  rw[fF,if_neg (Ne.symm h0)]
  exact hr
 ·have h1:=h.leads j y (hget j y hy).2 e he
  have h2:=DZ hc (hget j y hy).2 e he
  rw[fF,if_neg h2]
  exact h1
 ·have:=oq dD h.sorted hx
  have:=h.len
  omega
theorem rD {T:aI} (h:uK T) {d id:Int} {x:bf} {n:Nm} (hx:aF d T=some x) (hn:aF n x.names=some id) (j:Int):fZ (aU T d n) j+(if id=j then 1 else 0)=fZ T j:=by
 have h1:=pq h.sorted (fun x=>{x with names:=bK n x.names}) hx j
 have h2:=OZ (h.each d x hx) hn j
 unfold aU
 omega
theorem Ec {T:aI} {d j:Int} {n:Nm} {y:bf} (hy:aF j (aU T d n)=some y):∃z,aF j T=some z∧y.links=z.links∧y.kind=z.kind∧y.closed=z.closed∧y.b=z.b∧(j≠d→y=z):=by
 unfold aU at hy
 rw[bF]at hy
 by_cases hj:j=d
 ·rw[if_pos hj]at hy
  cases hz:aF j T with
  |none=>rw[hz]at hy;cases hy
  |some z=>
   rw[hz]at hy
   simp only[Option.map_some,Option.some.injEq]at hy
   subst hy
   exact⟨z,rfl,rfl,rfl,rfl,rfl,fun h=>absurd hj h⟩
 ·rw[if_neg hj]at hy
  exact⟨y,hy,rfl,rfl,rfl,rfl,fun _=>rfl⟩
theorem dR.Mx {T:aI} (h:dR T) {d id:Int} {x y:bf} {n:Nm} (hx:aF d T=some x) (hk:x.kind=2) (hn:aF n x.names=some id) (hy:aF id T=some y) (hid:id≠d) (h0:id≠0) (hyn:y.names=[]) (hl:y.links=1):dR (bK id (aU T d n)):=by
 have hP:=h.touK.cut (n:=n) hx hk
 have hy1:aF id (aU T d n)=some y:=by unfold aU;rw[bF,if_neg hid];exact hy
 have hc:=h.counts id y hy h0
 have h1:=rD h.touK hx hn id
 rw[if_pos rfl]at h1
 refine⟨hP.del hy1 h0 (by omega),fun j z hz hj=> ?_⟩
 have hji:j≠id:=fun e=>by subst e;rw[kZ]at hz;cases hz
 rw[fF,if_neg hji]at hz
 obtain⟨z',hz',hl',_⟩:=Ec hz
 have h2:=rD h.touK hx hn j
 rw[if_neg (Ne.symm hji)]at h2
 have h3:=r_ hP.sorted hy1 j
 have h4:cn j y=0:=by unfold cn;rw[hyn];rfl
 have:=h.counts j z' hz' hj
 omega
theorem dR.IJ {T:aI} (h:dR T) {d id:Int} {x y:bf} {n:Nm} (hx:aF d T=some x) (hk:x.kind=2) (hn:aF n x.names=some id) (hy:aF id T=some y) (hyk:y.kind≠2):
  dR (eT (Go.Proofs.YtohpcppeajijnaaGreat.aT id (fun x=>{x with links:=x.links-1}) (aU T d n)) id):=by
 have hoy:=h.each id y hy
 have h0:=h.qW hy hyk
 have hid:id≠d:=fun e=>by subst e;rw[hx]at hy;cases hy;exact hyk hk
 have hk1:=hoy.kind.resolve_right hyk
 have hyn:=hoy.file hk1
 have hP:=h.touK.cut (n:=n) hx hk
 have hy1:aF id (aU T d n)=some y:=by unfold aU;rw[bF,if_neg hid];exact hy
 have hg:aF id (Go.Proofs.YtohpcppeajijnaaGreat.aT id (fun x=>{x with links:=x.links-1}) (aU T d n))=some {y with links:=y.links-1}:=by rw[bF,if_pos rfl,hy1];rfl
 have hcy:=h.counts id y hy h0
 have h1:=rD h.touK hx hn id
 rw[if_pos rfl]at h1
 unfold eT
 rw[hg]
 simp only
 by_cases hc:y.links-1=0∧y.closed=true
 ·rw[if_pos hc]
  have e:bK id (Go.Proofs.YtohpcppeajijnaaGreat.aT id (fun x=>{x with links:=x.links-1}) (aU T d n))=bK id (aU T d n):=by
   generalize aU T d n=L
   unfold bK Go.Proofs.YtohpcppeajijnaaGreat.aT
   induction L with
   |nil=>rfl
   |cons y r ih=>
    rw[List.map_cons,List.filter_cons,List.filter_cons,ih]
    by_cases hy:y.1=id<;>simp[hy]
  rw[e]
  exact h.Mx hx hk hn hy hid h0 hyn (by omega)
 ·rw[if_neg hc]
  refine⟨hP.aT (f:=fun x=>{x with links:=x.links-1}) hy1 ⟨hoy.kind,hoy.file,fun h=>absurd h hyk,fun h=> ?_,hoy.sorted,hoy.good,hoy.size,?_,hoy.aS⟩ rfl (hP.leads id y hy1),fun j z hz hj=> ?_⟩
  ·cases hcl:y.closed with
   |true=>exact absurd ⟨h,hcl⟩ hc
   |false=>rfl
  ·have:=hoy.links
   simp only
   omega
  ·have h3:=pq hP.sorted (fun x=>{x with links:=x.links-1}) hy1 j
   have h3':cn j {y with links:=y.links-1}=cn j y:=rfl
   have h4:=rD h.touK hx hn j
   rw[bF]at hz
   by_cases hji:j=id
   ·subst hji
    rw[if_pos rfl,hy1]at hz
    simp only[Option.map_some,Option.some.injEq]at hz
    rw[if_pos rfl]at h4
    rw[←hz]
    simp only
    omega
   ·rw[if_neg hji]at hz
    rw[if_neg (Ne.symm hji)]at h4
    obtain⟨z',hz',hl',_⟩:=Ec hz
    have:=h.counts j z' hz' hj
    omega
theorem yY {T:aI} {p:List Nm} (h:fT T p=0):bV p=0∧(aY T 0 p).2=0∧fG T (aY T 0 p).1≠2:=by
 unfold fT kG at h
 by_cases h1:bV p≠0
 ·rw[if_pos h1]at h
  simp only[if_pos h1]at h
  exact absurd h h1
 ·rw[if_neg h1]at h
  by_cases h2:(aY T 0 p).2≠0
  ·rw[if_pos h2]at h;exact absurd h h2
  ·rw[if_neg h2]at h
   by_cases h3:fG T (aY T 0 p).1=2
   ·rw[if_pos h3]at h;cases h
   ·exact⟨by omega,by omega,h3⟩
theorem dR.bg {T:aI} (h:dR T) (p:List Nm):dR (bg T p).2:=by
 unfold Go.Proofs.YtohpcppeajijnaaGreat.bg
 by_cases he:fT T p=0
 ·simp only[if_pos he]
  obtain⟨h1,h2,h3⟩:=yY he
  obtain⟨y,hy⟩:=Option.isSome_iff_exists.1 (je h p 0 (gG h) h2)
  have hp:p≠[]:=fun e=>by subst e;exact h3 h.root
  obtain⟨d,x,n,e1,_,hx,hk,hn,_⟩:=mM (id:=(aY T 0 p).1) (Prod.ext rfl h2) hp
  rw[jl hy]at h3
  unfold mW
  rw[e1]
  exact h.IJ hx hk hn hy h3
 ·simp only[if_neg he];exact h
end Go.Proofs.YtohpcppeajijnaaGreat
