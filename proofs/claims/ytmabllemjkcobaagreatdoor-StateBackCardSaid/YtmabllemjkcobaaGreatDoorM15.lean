/- package codec: the writer. package codec: Short, Byte, Long, Flag, Raw, Bytes, Done, NewWriter. node.Right, node.Encode. Names that go: what holds of a tree behind Unlink, Rmdir; where a path's name stands. -/
import Derived.Test.YtmabllemjkcobaaGreatDoorM14
import Derived.Test.YtmabllemjkcobaaGreatDoorM09
import Derived.WalkLawsBesides
import Derived.Deep.CutBlock
import Derived.Deep.DeepCutAuto
import Derived.Test.YtmabllemjkcobaaGreatDoorM12
import Derived.Test.YtmabllemjkcobaaGreatDoorM10
import Derived.Test.YtmabllemjkcobaaGreatDoorM13
namespace Go.Proofs.YtmabllemjkcobaaGreatDoor
open Go.ChangeShapes Go.WideShapes Go.ChangeAt Go.RowKit
set_option linter.unusedVariables false
set_option linter.unusedSimpArgs false
def fF (n:Int):Nat→List UInt8
 |0=>[]
 |s+1=>UInt8.ofNat ((n/2^(8*s)).toNat%256)::fF n s
structure bT (B:Nat) (w:World) (x:Nat) (v:Value) (bs:List UInt8):Prop where
 head:w.heap[x]? =some (.cells #[v] 167 (0,0))
 own:w.ownsRow B 5 1 v bs.length (bs.map bv)
 low:B≤x
 apart:v.ownBlock≠some x
def jA (B:Nat) (w:World) (x:Nat) (v:Value) (bs:List UInt8) (v':Value) (w':World):Prop:=
 bT B w' x v' bs∧Keeps (fun b=>b=x∨v.ownBlock=some b) w w'∧∀b,v'.ownBlock=some b→v.ownBlock=some b∨w.heap.size≤b
def nN (B:Nat) (w:World) (x:Nat) (v:Value) (bs:List UInt8) (e:Ending) (w':World):Prop:=e= .returned (.tuple #[])∧∃v',jA B w x v bs v' w'
section
variable {B x:Nat} {w w1 w2:World} {v v1 v2:Value} {bs bs1 bs2:List UInt8}
theorem bT.lt (h:bT B w x v bs):x<w.heap.size:=(Array.getElem?_eq_some_iff.1 h.head).1
theorem bT.cell (h:bT B w x v bs):w.cell? ⟨x,0,none⟩=some v:=by simp[World.cell?,h.head]
theorem bT.frozen (h:bT B w x v bs):w.frozen? ⟨x,0,none⟩=false:=by simp[World.frozen?,h.head]
theorem bT.kept (h:bT B w x v bs) (hs:w.heap.size≤w1.heap.size) (hx:w1.heap[x]? =w.heap[x]?) (hv:∀b,v.ownBlock=some b→w1.heap[b]? =w.heap[b]?):bT B w1 x v bs:=
 ⟨hx.trans h.head,cK h.own fun b hb _=>hv b hb,h.low,h.apart⟩
theorem bT.below (h:bT B w x v bs) (hb:Below w.heap.size w w1):bT B w1 x v bs:=
 h.kept hb.size (hb.block x h.lt) fun b hb'=>hb.block b (dY h.own b hb')
theorem jA.refl (h:bT B w x v bs):jA B w x v bs v w:=⟨h,Keeps.refl _ _,fun b hb=> .inl hb⟩
theorem jA.trans (h:jA B w x v bs1 v1 w1) (k:jA B w1 x v1 bs2 v2 w2):jA B w x v bs2 v2 w2:=by
 obtain⟨h1,h2,h3⟩:=h
 obtain⟨k1,k2,k3⟩:=k
 have hs:=h2.size
 refine⟨k1,h2.trans k2 fun b hb hb1=> ?_,fun b hb=> ?_⟩
 ·rcases hb1 with h4|h4
  ·exact .inl h4
  ·rcases h3 b h4 with h5|h5
   ·exact .inr h5
   ·omega
 ·rcases k3 b hb with h4|h4
  ·exact h3 b h4
  ·exact .inr (by omega)
theorem jA.below (h:jA B w x v bs v1 w1) (hb:Below w1.heap.size w1 w2):jA B w x v bs v1 w2:=by
 obtain⟨h1,h2,h3⟩:=h
 exact⟨h1.below hb,h2.trans (Keeps.below hb) (fun b hb' hf=>by have:=h2.size;omega),h3⟩
end
theorem G7 {B x:Nat} {wr wa u1:World} {v1 v2:Value} {bs bs':List UInt8} (h:bT B wr x v1 bs) (ha:Below wr.heap.size wr wa) (hown:u1.ownsRow B 5 1 v2 bs'.length (bs'.map bv)) (hg:wa.grownBy u1 v1.ownBlock) (hat:v2.ownBlock=v1.ownBlock∨v2.ownBlock=some wa.heap.size):jA B wr x v1 bs' v2 (u1.setCell ⟨x,0,none⟩ v2):=by
 have hx:=h.lt
 have hs1:=ha.size
 have hs2:=hg.size
 have hxb:u1.heap[x]? =some (.cells #[v1] 167 (0,0)):=(hg.block x (by omega) (fun e=>h.apart e.symm)).trans ((ha.block x hx).trans h.head)
 have hap:v2.ownBlock≠some x:=by
  rcases hat with h1|h1
  ·rw[h1];exact h.apart
  ·rw[h1]
   intro e
   simp only[Option.some.injEq]at e
   omega
 refine⟨⟨?_,cK hown fun b hb hbw=>bE u1 _ _ _ (fun e=>hap (by rw[hb,e])),h.low,hap⟩,⟨hg.os.trans ha.os,hg.tape.trans ha.tape,hg.output.trans ha.output,by rw[size_set];omega,fun b hb hn=> ?_⟩,fun b hb=> ?_⟩
 ·simp only[World.setCell,Array.getElem?_modify,hxb]
  simp
 ·have h1:b≠x:=fun e=>hn (.inl e)
  have h2:v1.ownBlock≠some b:=fun e=>hn (.inr e)
  exact(bE u1 _ _ _ h1).trans ((hg.block b (by omega) (fun e=>h2 e.symm)).trans (ha.block b hb))
 ·rcases hat with h1|h1
  ·exact .inl (h1▸hb)
  ·rw[h1]at hb
   cases hb
   exact .inr hs1
theorem z_ {n:Int} (hn:0≤n) (k:Nat):IntKind.u8.wrap (n/2^(8*(k:Int)).toNat)=((UInt8.ofNat ((n/2^(8*k)).toNat%256)).toNat:Int):=by
 have e1:(8*(k:Int)).toNat=8*k:=by omega
 rw[e1]
 have h0:0≤n/2^(8*k):=Int.ediv_nonneg hn (Int.pow_nonneg (by decide))
 generalize n/2^(8*k)=y at h0
 have h1:(UInt8.ofNat (y.toNat%256)).toNat=y.toNat%256:=by simp
 rw[h1]
 simp only[IntKind.wrap,IntKind.bits,IntKind.signed]
 simp
 omega
set_option maxRecDepth 100000 in
set_option maxHeartbeats 4000000 in
theorem AZ {B x:Nat} {w:World} {v:Value} {bs:List UInt8} (h:bT B w x v bs) (n:Int) (s:Nat) (hn:0≤n) (hn':n≤18446744073709551615) (hs:s≤8) (hl:bs.length≤100000000):
  Calls Tryz.prog 123 #[ptr x, .int .u64 n, .int .i64 s] w (nN B w x v (bs++fF n s)):=by
 obtain⟨i8,hi⟩:∃i,Tryz.prog.info? 5=some i∧i.zero=some (.int .u8 0)∧i.size=1∧i.bytes=1:=info_parts (by kernel_rfl)
 have HI:=Lib.hid hi
 have HW:=Lib.hid h
 clear h hi
 go_enter Tryz.func123,Tryz.ntmps123
 go_wp2
 go_loopw [6] (fun kv wr=>∃(k:Nat) (dn:List UInt8) (v1:Value),k≤s∧kv= .int .i64 ((k:Int)-1)∧dn++fF n k=fF n s∧dn.length+k=s∧jA B w x v (bs++dn) v1 wr) (fun kv _=>((intOf kv)+1).toNat)
 case atStart=>exact⟨s,[],v,Nat.le_refl _,by go_num,rfl,by simp,by simpa using jA.refl HW.out⟩
 case round=>
  obtain⟨k,dn,v1,hk,rfl,hdn,hdl,hm⟩:=hrel
  have HM:=Lib.hid hm
  have c0:=hm.1.cell
  have f0:=hm.1.frozen
  clear hm
  cases k with
  |zero=>
   have G8:=Lib.hid hdn
   have e0:((0:Nat):Int)-1= -1:=by omega
   rw[e0]
   clear hdn
   go_wp2_with fail
   go_end0
   refine⟨rfl,v1,?_⟩
   have h9:=G8.out
   unfold fF at h9
   rw[List.append_nil]at h9
   cases s with
   |zero=>
    have:dn=[]:=List.eq_nil_of_length_eq_zero (by omega)
    subst this
    exact HM.out
   |succ s=>
    rw[←show dn=fF n (s+1)from by rw[h9];rfl]
    exact HM.out
  |succ k=>
   have hk0:(0:Int)≤k:=by omega
   have e1:((k+1:Nat):Int)-1=(k:Int):=by omega
   rw[e1]
   have e2:IntKind.i64.wrap (8*(k:Int))=8*(k:Int):=IntWalk.i64_in _ (by omega)
   have hge:decide ((0:Int)≤(k:Int))=true:=by simp
   have hbw:=z_ hn k
   obtain⟨b0,hb0⟩:∃b0,b0=UInt8.ofNat ((n/2^(8*k)).toNat%256):=⟨_,rfl⟩
   rw[←hb0]at hbw
   have HB0:=Lib.hid hb0
   have G8:=Lib.hid hdn
   have jl:Hid (∀w',Below wr.heap.size wr w'→w'.cell? ⟨x,0,none⟩=some v1∧w'.frozen? ⟨x,0,none⟩=false):=fun w' hb=>⟨(HM.out.1.below hb).cell,(HM.out.1.below hb).frozen⟩
   obtain⟨N,hN⟩:∃N,N=(bs++dn).length:=⟨_,rfl⟩
   have hN2:N≤100000008:=by rw[hN,List.length_append];omega
   have HOW:Hid (wr.ownsRow B 5 1 v1 N ((bs++dn).map bv)):=by rw[hN];exact HM.out.1.own
   have gF:=Lib.hid hN
   have hBw:B≤wr.heap.size:=Nat.le_of_lt (Nat.lt_of_le_of_lt HM.out.1.low HM.out.1.lt)
   clear hb0 hdn hN
   go_wp2_with fail
   refine wp_region_noPanic ?_
   refine bH (last:=14) (S:=(fun w'=>w'.cell? ⟨x,0,none⟩=some v1∧w'.frozen? ⟨x,0,none⟩=false)) (by kernel_rfl) ?_ (fun hS=> ?_)
   ·exact jl.out _ (Below.refl _ _).drew
   refine bf 0 (hS:=hS) (h:= ?_)
   refine bf 1 (hS:=hS) (h:= ?_)
   refine bf 2 (hS:=hS) (h:= ?_)
   refine bf 3 (hS:=hS) (h:= ?_)
   refine bf 4 (hS:=hS) (h:= ?_)
   refine bf 5 (hS:=hS) (h:= ?_)
   refine bf 6 (hS:=hS) (h:= ?_)
   refine bf 7 (hS:=hS) (h:= ?_)
   refine bf 8 (hS:=hS) (h:= ?_)
   refine bf 9 (hS:=hS) (h:= ?_)
   refine jF 10 (h:=fun K hK=> ?_)
   go_simp
   have Ca:Below wr.heap.size wr (wr.drew.alloc (.cells #[bv b0] 5)):=(Below.refl _ _).drew.alloc (Nat.le_refl _) _
   refine hK.out _ _ (fun _=>jl.out _ Ca) (fun hS=> ?_)
   replace hS:=hS (by decide)
   clear hK K
   try simp only[Act.put,List.setIfInBounds_toArray,List.set_cons_zero,List.set_cons_succ]
   refine aS (rs:=[11]) (by kernel_rfl) (by simp) ?_
   refine ay.cons (o:= ?o1) ?ho1 (fun K hK=> ?_) ay.nil
   case ho1=>simp only[List.getElem?_toArray,List.getElem?_cons_succ,List.getElem?_cons_zero];rfl
   refine wH (by rfl) (.tmp 17) (.tmp 23) 26 (by rfl) B 5 i8 _ 1 Tryz.underlying26 HI.out.1 HI.out.2.1 HI.out.2.2.1 HI.out.2.2.2 rfl v1 N ((bs++dn).map bv) (by rfl) (cK HOW.out fun b hb hbw=>Ca.block b hbw) (some ⟨wr.heap.size,0,none⟩) 1 1 [bv b0] (by rfl) (jm (w:=wr.drew) (bv b0) 5) (by simp[bv,Value.oneCell']) (by unfold maxLen;omega) (by omega) (by simp;omega) ?_
   intro A1 c1 u1 hown1 hg1 _ Tj
   have PU:u1.heap[x]? =some (.cells #[v1] 167 (0,0)):=(hg1.block x (Nat.lt_of_lt_of_le HM.out.1.lt Ca.size) (fun e=>HM.out.1.apart e.symm)).trans ((Ca.block x HM.out.1.lt).trans HM.out.1.head)
   have hu:u1.cell? ⟨x,0,none⟩=some v1∧u1.frozen? ⟨x,0,none⟩=false:=⟨by simp[World.cell?,PU],by simp[World.frozen?,PU]⟩
   refine hK.out _ _ (fun _=>hu) (fun hS=> ?_)
   replace hS:=hS (by decide)
   clear hK K
   try simp only[Act.put,List.setIfInBounds_toArray,List.set_cons_zero,List.set_cons_succ]
   refine bf 12 (hS:=hS) (h:= ?_)
   refine bf 13 (hS:=hS) (h:= ?_)
   refine jF 14 (h:=fun K hK=> ?_)
   go_simp
   refine hK.out _ _ (fun h=>absurd rfl h) (fun hS=> ?_)
   clear hS hK K
   try simp only[Act.put,List.setIfInBounds_toArray,List.set_cons_zero,List.set_cons_succ]
   refine aT (by kernel_rfl) ?_ _
   refine NoPanic.normal ?_
   go_wp2
   go_roundw
   case rel=>
    refine⟨k,dn++[b0], .slice A1 (N+1) c1,by omega,by go_num,?_,by simp;omega,HM.out.trans (G7 HM.out.1 Ca ?_ hg1 Tj)⟩
    ·rw[List.append_assoc,←G8.out,HB0.out]
     rfl
    ·have h9:(bs++(dn++[b0])).length=N+1:=by rw[gF.out];simp;omega
     rw[h9]
     simpa using hown1
   case measure=>simp[intOf]
theorem lH (w:World):Calls Tryz.prog 53 #[] w fun e w'=>e= .returned (ptr w.heap.size)∧bT w.heap.size w' w.heap.size (.slice none 0 0) []∧Below w.heap.size w w':=by
 go_enter Tryz.func53,Tryz.ntmps53
 go_wp2
 go_ret
 exact⟨rfl,⟨(MapKept.heap_alloc w _).1,⟨rfl, .inl ⟨rfl,rfl⟩⟩,Nat.le_refl _,by simp[Value.ownBlock]⟩,wall w _⟩
section
variable {B x:Nat} {w:World} {v:Value} {bs:List UInt8}
theorem jA.low {bs':List UInt8} {v':Value} {w':World} (h:jA B w x v bs' v' w') (h0:bT B w x v bs):Below B w w':=
 h.2.1.gP (Nat.le_of_lt (Nat.lt_of_le_of_lt h0.low h0.lt)) fun b hb hf=>by
  rcases hf with h1|h1
  ·have:=h0.low;omega
  ·have:=dG h0.own b h1;omega
theorem kW (h:bT B w x v bs) (n:Int) (hn0:0≤n) (hn:n≤1000000000) (hl:bs.length≤100000000):Calls Tryz.prog 118 #[ptr x, .int .i64 n] w (nN B w x v (bs++fF n 2)):=by
 have HP:Hid (Calls Tryz.prog 123 #[ptr x, .int .u64 n, .int .i64 2] w (nN B w x v (bs++fF n 2))):=AZ h n 2 (by omega) (by omega) (by omega) hl
 have e1:IntKind.u64.wrap n=n:=by simp[IntKind.wrap,IntKind.bits,IntKind.signed];omega
 clear h
 go_enter Tryz.func118,Tryz.ntmps118
 go_wp2_with fail
 (with_reducible refine HP.out.mono ?_)
 rintro e w1 ⟨rfl,v1,hm⟩
 go_wp2_with fail
 go_end0
 exact⟨rfl,v1,hm⟩
theorem tu (h:bT B w x v bs) (n:Int) (hn0:0≤n) (hn:n≤1000000000) (hl:bs.length≤100000000):Calls Tryz.prog 124 #[ptr x, .int .i64 n] w (nN B w x v (bs++fF n 1)):=by
 have HP:Hid (Calls Tryz.prog 123 #[ptr x, .int .u64 n, .int .i64 1] w (nN B w x v (bs++fF n 1))):=AZ h n 1 (by omega) (by omega) (by omega) hl
 have e1:IntKind.u64.wrap n=n:=by simp[IntKind.wrap,IntKind.bits,IntKind.signed];omega
 clear h
 go_enter Tryz.func124,Tryz.ntmps124
 go_wp2_with fail
 (with_reducible refine HP.out.mono ?_)
 rintro e w1 ⟨rfl,v1,hm⟩
 go_wp2_with fail
 go_end0
 exact⟨rfl,v1,hm⟩
theorem oH (h:bT B w x v bs) (n:Int) (hn:0≤n) (hn':n≤18446744073709551615) (hl:bs.length≤100000000):Calls Tryz.prog 54 #[ptr x, .int .u64 n] w (nN B w x v (bs++fF n 8)):=by
 have HP:Hid (Calls Tryz.prog 123 #[ptr x, .int .u64 n, .int .i64 8] w (nN B w x v (bs++fF n 8))):=AZ h n 8 hn hn' (by omega) hl
 clear h
 go_enter Tryz.func54,Tryz.ntmps54
 go_wp2_with fail
 (with_reducible refine HP.out.mono ?_)
 rintro e w1 ⟨rfl,v1,hm⟩
 go_wp2_with fail
 go_end0
 exact⟨rfl,v1,hm⟩
def qh (f:Bool):List UInt8:=fF (if f then 1 else 0) 1
theorem LG (h:bT B w x v bs) (f:Bool) (hl:bs.length≤100000000):Calls Tryz.prog 188 #[ptr x, .bool f] w (nN B w x v (bs++qh f)):=by
 have HP1:=Lib.hid (tu h 1 (by omega) (by omega) hl)
 have HP0:=Lib.hid (tu h 0 (by omega) (by omega) hl)
 clear h
 cases f
 ·have HQ:Hid (Calls Tryz.prog 124 #[ptr x, .int .i64 0] w (nN B w x v (bs++qh false))):=HP0.out
  go_enter Tryz.func188,Tryz.ntmps188
  go_wp2_with fail
  (with_reducible refine HQ.out.mono ?_)
  rintro e w1 ⟨rfl,v1,hm⟩
  go_wp2_with fail
  go_end0
  exact⟨rfl,v1,hm⟩
 ·have HQ:Hid (Calls Tryz.prog 124 #[ptr x, .int .i64 1] w (nN B w x v (bs++qh true))):=HP1.out
  go_enter Tryz.func188,Tryz.ntmps188
  go_wp2_with fail
  (with_reducible refine HQ.out.mono ?_)
  rintro e w1 ⟨rfl,v1,hm⟩
  go_wp2_with fail
  (try simp only[Exit.inBlock,Exit.then])
  refine bodyPost_ret (results_none rfl _ _ _) rfl ?_
  exact⟨rfl,v1,hm⟩
theorem EZ {u1:World} (h:bT B w x v bs) (hg:w.grownBy u1 v.ownBlock):u1.cell? ⟨x,0,none⟩=some v∧u1.frozen? ⟨x,0,none⟩=false:=by
 have PU:=(hg.block x h.lt (fun e=>h.apart e.symm)).trans h.head
 exact⟨by simp[World.cell?,PU],by simp[World.frozen?,PU]⟩
theorem wP {S:Nat→Prop} (h:bT B w x v bs) (a:Option Addr) (m c:Nat) (l:List UInt8) (hr:aj S w a m (l.map bv)) (hl:bs.length≤100000000) (hm:m≤100000000):Calls Tryz.prog 55 #[ptr x, .slice a m c] w (nN B w x v (bs++l)):=by
 obtain⟨i8,hi⟩:∃i,Tryz.prog.info? 5=some i∧i.zero=some (.int .u8 0)∧i.size=1∧i.bytes=1:=info_parts (by kernel_rfl)
 have HI:=Lib.hid hi
 have HW:=Lib.hid h
 have HR:=Lib.hid hr
 have c0:=h.cell
 have f0:=h.frozen
 have hBw:B≤w.heap.size:=Nat.le_of_lt (Nat.lt_of_le_of_lt h.low h.lt)
 have hlm:l.length=m:=by simpa using hr.length
 have HLM:=Lib.hid hlm
 clear h hi hr hlm
 obtain⟨N,hN⟩:∃N,N=bs.length:=⟨_,rfl⟩
 have HOW:Hid (w.ownsRow B 5 1 v N (bs.map bv)):=by rw[hN];exact HW.out.own
 have gF:=Lib.hid hN
 rw[←hN]at hl
 clear hN
 have hxw:=HW.out.lt
 go_enter Tryz.func55,Tryz.ntmps55
 go_wp2_with (at_builtin;refine aW rfl _ _ 26 rfl B 5 i8 _ 1 Tryz.underlying26 HI.out.1 HI.out.2.1 HI.out.2.2.1 HI.out.2.2.2 rfl v N (bs.map bv) rfl HOW.out a m c (l.map bv) rfl HR.out (mG l) (by unfold maxLen;omega) (by omega) hBw ?_;intro A1 c1 u1 hown1 hg1 _ Tj;have PU:=EZ HW.out hg1;have hcx:=PU.1;have hfx:=PU.2;clear PU)
 go_end0
 refine⟨rfl,_,G7 (wa:=w) HW.out (Below.refl _ _) ?_ hg1 Tj⟩
 have h9:(bs++l).length=N+m:=by rw[List.length_append,←gF.out,HLM.out]
 rw[h9,List.map_append]
 exact hown1
set_option maxHeartbeats 1000000 in
theorem tC {S:Nat→Prop} (h:bT B w x v bs) (a:Option Addr) (m c:Nat) (l:List UInt8) (hr:aj S w a m (l.map bv)) (hS:∀b,S b→b≠x∧v.ownBlock≠some b) (hc:m≤c) (hl:bs.length≤90000000) (hm:m≤65535):Calls Tryz.prog 120 #[ptr x, .slice a m c] w (nN B w x v (bs++(fF m 2++l))):=by
 have HS:=Lib.hid (kW h (m:Int) (by omega) (by omega) (by omega))
 have HW:=Lib.hid h
 have HRR:=Lib.hid hr
 have HSS:=Lib.hid hS
 have e1:min (m:Int) 65535=(m:Int):=by omega
 have h0:(0:Int)≤(m:Int):=by omega
 have h1:(m:Int)≤(c:Int):=by omega
 clear h hr hS
 go_enter Tryz.func120,Tryz.ntmps120
 go_wp2_with fail
 (with_reducible refine HS.out.mono ?_)
 rintro e w1 ⟨rfl,v1,hm1⟩
 have HM:=Lib.hid hm1
 have hr1:aj S w1 a m (l.map bv):=HRR.out.kept hm1.2.1.size fun b hb hbw=>hm1.2.1.block b hbw fun hf=>by
  rcases hf with h4|h4
  ·exact(HSS.out b hb).1 h4
  ·exact(HSS.out b hb).2 h4
 have HRW:=Lib.hid (wP hm1.1 a m c l hr1 (by rw[List.length_append];have:(fF (m:Int) 2).length=2:=rfl;omega) (by omega))
 clear hm1 hr1
 go_wp2_with fail
 (with_reducible refine HRW.out.mono ?_)
 rintro e w2 ⟨rfl,v2,hm2⟩
 go_wp2_with fail
 go_end0
 refine⟨rfl,v2,?_⟩
 have:=HM.out.trans hm2
 rw[List.append_assoc]at this
 exact this
theorem tF (h:bT B w x v bs) (hl:bs.length≤100000000):Calls Tryz.prog 57 #[ptr x] w (pE w bs):=by
 obtain⟨a,c,rfl,hc⟩:=bF h.own
 obtain⟨_,hr⟩:=aj.qL h.own
 have HC:=Lib.hid (jV a bs.length c bs w (by omega) hr)
 have c0:=h.cell
 clear h hr
 go_enter Tryz.func57,Tryz.ntmps57
 go_wp2_with fail
 (with_reducible refine HC.out.mono ?_)
 rintro e w1 ⟨a1,n1,c1,rfl,hn1,hr1,hb1⟩
 go_wp2_with fail
 go_ret
 exact⟨a1,n1,c1,rfl,hn1,hr1,hb1⟩
end
set_option maxHeartbeats 2000000 in
theorem E5 (k:Int) (x:eB) (h1:IY x) (hk:0≤k) (hk':k≤65535) (w:World):Calls Tryz.prog 187 #[qK k x] w fun e w'=>e= .returned (.bool true)∧Below w.heap.size w w':=by
 obtain⟨l0,l1⟩:=h1.links
 obtain⟨t0,t1⟩:=h1.au
 have hb:=h1.size
 obtain⟨n,hn⟩:∃n,n=x.b.length:=⟨_,rfl⟩
 rw[←hn]at hb
 have d1:decide (k<0)=false:=by simpa using hk
 have d2:decide (65535<k)=false:=by simpa using hk'
 have d3:decide (x.links<0)=false:=by simpa using l0
 have d4:decide (65535<x.links)=false:=by simp;omega
 have d5:decide ((n:Int)≤4096)=true:=by simp;omega
 have d6:decide (x.au≤1099511627776)=true:=by simpa using t1
 have d7:decide ((0:Int)≤(n:Int))=true:=by simp
 unfold qK
 rw[←hn]
 by_cases hk2:x.kind=2
 ·obtain⟨_,hcl,hbn,htl⟩:=h1.dir hk2
  have hn0:n=0:=by rw[hn,hbn];rfl
  subst hn0
  rw[hk2,hcl,htl]
  clear hn h1 hk2 hcl hbn htl d6
  go_enter Tryz.func187,Tryz.ntmps187
  go_wp2
  all_goals (first|(go_ret;exact⟨rfl,wall w _⟩)|((try simp only[Exit.inBlock,Exit.then]);refine bodyPost_ret (by rfl) rfl ?_;exact⟨rfl,wall w _⟩))
 ·have hk1:=h1.kind.resolve_right hk2
  rw[hk1]
  clear hn h1 hk2 hk1
  go_enter Tryz.func187,Tryz.ntmps187
  go_wp2
  all_goals (first|(go_ret;exact⟨rfl,wall w _⟩)|((try simp only[Exit.inBlock,Exit.then]);refine bodyPost_ret (by rfl) rfl ?_;exact⟨rfl,wall w _⟩))
def qw (k:Int) (x:eB):List UInt8:=fF k 2++fF x.kind 1++fF x.links 2++fF x.b.length 2++fF x.au 8++qh x.closed
theorem bP (n:Int):∀s,(fF n s).length=s
 |0=>rfl
 |s+1=>by unfold fF;rw[List.length_cons,bP n s]
theorem lU (k:Int) (x:eB):(qw k x).length=16:=by
 unfold qw qh
 simp only[List.length_append,bP]
set_option maxHeartbeats 4000000 in
theorem E8 (k:Int) (x:eB) (h1:IY x) (hk:0≤k) (hk':k≤65535) (w:World):Calls Tryz.prog 119 #[qK k x] w fun e w'=>∃a n c,e= .returned (.tuple #[.slice a n c, .int .i64 0])∧n≤c∧aj (fun b=>w.heap.size≤b∧b<w'.heap.size) w' a n ((qw k x).map bv)∧Below w.heap.size w w':=by
 have HR:=Lib.hid (fun w'=>E5 k x h1 hk hk' w')
 obtain⟨l0,l1⟩:=h1.links
 obtain⟨t0,t1⟩:=h1.au
 have hb:=h1.size
 have hkd:0≤x.kind∧x.kind≤2:=by rcases h1.kind with h|h<;>omega
 obtain⟨kd0,kd1⟩:=hkd
 unfold qw
 obtain⟨n,hn⟩:∃n:Nat,n=x.b.length:=⟨_,rfl⟩
 rw[←hn]at hb
 unfold qK at HR⊢
 rw[←hn]at HR⊢
 clear h1 hn
 go_enter Tryz.func119,Tryz.ntmps119
 go_wp2_with fail
 (with_reducible refine(HR.out _).mono ?_)
 rintro e w1 ⟨rfl,hb1⟩
 have hsa:(w.alloc (.cells #[.int .i64 k, .int .i64 x.kind, .int .i64 x.links, .int .i64 n, .int .u64 x.au, .bool x.closed] 34)).heap.size=w.heap.size+1:=by simp
 have hs1:=hb1.size
 have HQ:Hid (∀w',Below w1.heap.size w1 w'→∀j,w'.cell? ⟨w.heap.size,j,none⟩=(#[.int .i64 k, .int .i64 x.kind, .int .i64 x.links, .int .i64 n, .int .u64 x.au, .bool x.closed]:Array Value)[j]?):=fun w' hb j=>by
  rw[hb.cell (p:=⟨w.heap.size,j,none⟩) (by simp only;omega),hb1.cell (p:=⟨w.heap.size,j,none⟩) (by simp)]
  exact bY (MapKept.heap_alloc w _).1 j
 have HB1:=Lib.hid ((wall w (.cells #[.int .i64 k, .int .i64 x.kind, .int .i64 x.links, .int .i64 n, .int .u64 x.au, .bool x.closed] 34)).trans (hb1.mono (by omega)))
 clear hb1 HR
 go_wp2_with fail
 (with_reducible refine(lH w1).mono ?_)
 rintro e w2 ⟨rfl,hW2,hb2⟩
 have HW2:=Lib.hid hW2
 have HB2:=Lib.hid hb2
 clear hW2 hb2
 have q0:w2.cell? ⟨w.heap.size,0,none⟩=some (.int .i64 k):=HQ.out _ HB2.out 0
 have HS0:=Lib.hid (kW HW2.out k (by omega) (by omega) (by simp only[List.length_append,List.length_nil,bP];omega))
 go_wp2_with fail
 (with_reducible refine HS0.out.mono ?_)
 rintro e w3 ⟨rfl,v3,Ey⟩
 have HW3:=Lib.hid Ey.1
 have HB3:=Lib.hid (HB2.out.trans (Ey.low HW2.out))
 clear q0 Ey HS0 HW2 HB2
 have q1:w3.cell? ⟨w.heap.size,1,none⟩=some (.int .i64 x.kind):=HQ.out _ HB3.out 1
 have mU:=Lib.hid (tu HW3.out x.kind (by omega) (by omega) (by simp only[List.length_append,List.length_nil,bP];omega))
 go_wp2_with fail
 (with_reducible refine mU.out.mono ?_)
 rintro e w4 ⟨rfl,v4,C9⟩
 have Jj:=Lib.hid C9.1
 have iq:=Lib.hid (HB3.out.trans (C9.low HW3.out))
 clear q1 C9 mU HW3 HB3
 have q2:w4.cell? ⟨w.heap.size,2,none⟩=some (.int .i64 x.links):=HQ.out _ iq.out 2
 have HS2:=Lib.hid (kW Jj.out x.links (by omega) (by omega) (by simp only[List.length_append,List.length_nil,bP];omega))
 go_wp2_with fail
 (with_reducible refine HS2.out.mono ?_)
 rintro e w5 ⟨rfl,v5,E9⟩
 have O7:=Lib.hid E9.1
 have jI:=Lib.hid (iq.out.trans (E9.low Jj.out))
 clear q2 E9 HS2 Jj iq
 have q3:w5.cell? ⟨w.heap.size,3,none⟩=some (.int .i64 n):=HQ.out _ jI.out 3
 have wG:=Lib.hid (kW O7.out (n:Int) (by omega) (by omega) (by simp only[List.length_append,List.length_nil,bP];omega))
 go_wp2_with fail
 (with_reducible refine wG.out.mono ?_)
 rintro e w6 ⟨rfl,v6,LH⟩
 have PV:=Lib.hid LH.1
 have rH:=Lib.hid (jI.out.trans (LH.low O7.out))
 clear q3 LH wG O7 jI
 have q4:w6.cell? ⟨w.heap.size,4,none⟩=some (.int .u64 x.au):=HQ.out _ rH.out 4
 have iH:=Lib.hid (oH PV.out x.au (by omega) (by omega) (by simp only[List.length_append,List.length_nil,bP];omega))
 go_wp2_with fail
 (with_reducible refine iH.out.mono ?_)
 rintro e w7 ⟨rfl,v7,LJ⟩
 have KX:=Lib.hid LJ.1
 have A_:=Lib.hid (rH.out.trans (LJ.low PV.out))
 clear q4 LJ iH PV rH
 have q5:w7.cell? ⟨w.heap.size,5,none⟩=some (.bool x.closed):=HQ.out _ A_.out 5
 have fQ:=Lib.hid (LG KX.out x.closed (by simp only[List.length_append,List.length_nil,bP];omega))
 go_wp2_with fail
 (with_reducible refine fQ.out.mono ?_)
 rintro e w8 ⟨rfl,v8,C_⟩
 have Tk:=Lib.hid C_.1
 have wQ:=Lib.hid (A_.out.trans (C_.low KX.out))
 clear q5 C_ fQ KX A_
 have HD:=Lib.hid (tF Tk.out (by simp only[List.length_append,List.length_nil,bP,qh];omega))
 go_wp2_with fail
 (with_reducible refine HD.out.mono ?_)
 rintro e w9 ⟨a9,n9,c9,rfl,KY,PW,fM⟩
 have zo:=Lib.hid PW
 have qz:=Lib.hid (wQ.out.trans (fM.mono wQ.out.size))
 have uQ:=wQ.out.size
 have Zd:=KY
 clear PW fM HD
 go_wp2_with fail
 go_ret2
 refine⟨a9,n9,c9,rfl,Zd,?_,HB1.out.trans (qz.out.mono HB1.out.size)⟩
 have h9:=zo.out.mono (S':=fun b=>w.heap.size≤b∧b<w9.heap.size) fun b hb=>⟨by have:=HB1.out.size;omega,hb.2⟩
 simpa using h9
theorem gW (T:aK):∀(p q:List Nm) (a:Int),aD T a (p++q)=if (aD T a p).2=0 then aD T (aD T a p).1 q else aD T a p
 |[],q,a=>by simp[aD]
 |n::r,q,a=>by
  rcases Option.eq_none_or_eq_some (ah a T)with hx|⟨x,hx⟩
  ·simp[aD,hx]
  ·by_cases hk:x.kind=2
   ·rcases Option.eq_none_or_eq_some (ah n x.names)with hn|⟨k,hn⟩
    ·simp[aD,hx,hk,hn]
    ·simp only[List.cons_append,aD,hx,if_pos hk,hn]
     exact gW T r q k
   ·simp[aD,hx,hk]
theorem dL {T:aK} {p:List Nm} {id:Int} (h:aD T 0 p=(id,0)) (hp:p≠[]):∃d x n,aF T p=(d,n,0)∧aD T 0 p.dropLast=(d,0)∧ah d T=some x∧x.kind=2∧ah n x.names=some id∧n∈p∧p=p.dropLast++[n]:=by
 obtain⟨q,n,rfl⟩:∃q n,p=q++[n]:=⟨p.dropLast,p.getLast hp,(List.dropLast_concat_getLast hp).symm⟩
 rw[gW]at h
 have hd:(q++[n]).dropLast=q:=by simp
 have hl:(q++[n]).getLastD []=n:=by simp[List.getLastD_eq_getLast?]
 by_cases he:(aD T 0 q).2=0
 ·rw[if_pos he]at h
  obtain⟨⟨d,e0⟩,hq⟩:∃r,r=aD T 0 q:=⟨_,rfl⟩
  rw[←hq]at h he
  simp only at he
  subst he
  simp only[aD]at h
  cases hx:ah d T with
  |none=>rw[hx]at h;cases h
  |some x=>
   rw[hx]at h
   simp only at h
   by_cases hk:x.kind=2
   ·rw[if_pos hk]at h
    cases hn:ah n x.names with
    |none=>rw[hn]at h;cases h
    |some k=>
     rw[hn]at h
     simp only[Prod.mk.injEq,and_true]at h
     subst h
     refine⟨d,x,n,?_,by rw[hd,←hq],hx,hk,hn,by simp,by rw[hd]⟩
     unfold aF
     rw[if_neg hp,hd,hl,←hq,if_neg (by simp),if_pos ((bR hx).trans hk)]
   ·rw[if_neg hk]at h;cases h
 ·rw[if_neg he]at h
  rw[h]at he
  exact absurd rfl he
theorem LK {α:Type} {κ:Type} [DecidableEq κ] {lt:κ→κ→Bool} (L:mJ lt) (P:κ×α→Bool) {l:List (κ×α)} (hs:aN lt l) {k:κ} {v:α} (hg:ah k l=some v):(bI k l).countP P+(if P (k,v)then 1 else 0)=l.countP P:=by
 induction l with
 |nil=>cases hg
 |cons y r ih=>
  have hp:=hs.apart L
  obtain⟨h1,h2⟩:=List.pairwise_cons.1 hp
  rw[fB]at hg
  have VN:bI k (y::r)=if y.1=k then bI k r else y::bI k r:=by
   unfold bI
   rw[List.filter_cons]
   by_cases hy:y.1=k<;>simp[hy]
  rw[VN]
  by_cases hy:y.1=k
  ·rw[if_pos hy]at hg
   rw[if_pos hy]
   cases hg
   have hr:bI k r=r:=by
    unfold bI
    rw[List.filter_eq_self]
    intro q hq
    have:=h1 q hq
    simp only[Bool.not_eq_true',decide_eq_false_iff_not]
    exact fun e=>this (hy.trans e.symm)
   have e:(k,y.2)=y:=by rw[←hy]
   rw[hr,List.countP_cons,e]
  ·rw[if_neg hy]at hg
   rw[if_neg hy,List.countP_cons,List.countP_cons]
   have:=ih (List.pairwise_cons.1 hs).2 hg
   omega
theorem Tm {x:eB} (h:IY x) {n:Nm} {id:Int} (hn:ah n x.names=some id) (k:Int):cn k {x with names:=bI n x.names}+(if id=k then 1 else 0)=cn k x:=by
 have:=LK uD (fun e:Nm×Int=>decide (e.2=k)) h.sorted hn
 unfold cn
 simp only[decide_eq_true_eq]at this
 exact this
theorem PX {x:eB} (h:IY x) (n:Nm) (hk:x.kind=2):IY {x with names:=bI n x.names}:=by
 refine⟨h.kind,fun h1=> ?_,h.dir,h.gone,h.sorted.bI _,fun e he=>h.good e (List.mem_filter.1 he).1,h.size,h.links,h.au⟩
 have:x.kind=1:=h1
 omega
theorem zl.cut {T:aK} (h:zl T) {d:Int} {x:eB} {n:Nm} (hx:ah d T=some x) (hk:x.kind=2):zl (aL T d n):=
 h.bX hx (PX (h.each d x hx) n hk) rfl (fun e he=>h.leads d x hx e (List.mem_filter.1 he).1)
theorem zl.del {T:aK} (h:zl T) {k:Int} {x:eB} (hx:ah k T=some x) (h0:k≠0) (hc:fK T k=0):zl (bI k T):=by
 have hget:∀j y,ah j (bI k T)=some y→j≠k∧ah j T=some y:=fun j y hy=>by
  rw[eZ]at hy
  by_cases hj:j=k
  ·rw[if_pos hj]at hy;cases hy
  ·rw[if_neg hj]at hy;exact⟨hj,hy⟩
 refine⟨h.sorted.bI _,?_,fun j y hy=>h.each j y (hget j y hy).2,fun j y hy e he=> ?_,?_,fun j y hy=>h.ids j y (hget j y hy).2⟩
 ·have hr:=h.root
  unfold bB at hr⊢
  rw[eZ,if_neg (Ne.symm h0)]
  exact hr
 ·have h1:=h.leads j y (hget j y hy).2 e he
  have h2:=wM hc (hget j y hy).2 e he
  rw[eZ,if_neg h2]
  exact h1
 ·have:=qD dQ h.sorted hx
  have:=h.len
  omega
theorem oI {T:aK} (h:zl T) {d id:Int} {x:eB} {n:Nm} (hx:ah d T=some x) (hn:ah n x.names=some id) (j:Int):fK (aL T d n) j+(if id=j then 1 else 0)=fK T j:=by
 have h1:=kV h.sorted (fun x=>{x with names:=bI n x.names}) hx j
 have h2:=Tm (h.each d x hx) hn j
 unfold aL
 omega
theorem Ba {T:aK} {d j:Int} {n:Nm} {y:eB} (hy:ah j (aL T d n)=some y):∃z,ah j T=some z∧y.links=z.links∧y.kind=z.kind∧y.closed=z.closed∧y.b=z.b∧(j≠d→y=z):=by
 unfold aL at hy
 rw[aV]at hy
 by_cases hj:j=d
 ·rw[if_pos hj]at hy
  cases hz:ah j T with
  |none=>rw[hz]at hy;cases hy
  |some z=>
   rw[hz]at hy
   simp only[Option.map_some,Option.some.injEq]at hy
   subst hy
   exact⟨z,rfl,rfl,rfl,rfl,rfl,fun h=>absurd hj h⟩
 ·rw[if_neg hj]at hy
  exact⟨y,hy,rfl,rfl,rfl,rfl,fun _=>rfl⟩
theorem dI.G9 {T:aK} (h:dI T) {d id:Int} {x y:eB} {n:Nm} (hx:ah d T=some x) (hk:x.kind=2) (hn:ah n x.names=some id) (hy:ah id T=some y) (hid:id≠d) (h0:id≠0) (hyn:y.names=[]) (hl:y.links=1):dI (bI id (aL T d n)):=by
 have hP:=h.tozl.cut (n:=n) hx hk
 have hy1:ah id (aL T d n)=some y:=by unfold aL;rw[aV,if_neg hid];exact hy
 have hc:=h.counts id y hy h0
 have h1:=oI h.tozl hx hn id
 rw[if_pos rfl]at h1
 refine⟨hP.del hy1 h0 (by omega),fun j z hz hj=> ?_⟩
 have hji:j≠id:=fun e=>by subst e;rw[mI]at hz;cases hz
 rw[eZ,if_neg hji]at hz
 obtain⟨z',hz',hl',_⟩:=Ba hz
 have h2:=oI h.tozl hx hn j
 rw[if_neg (Ne.symm hji)]at h2
 have h3:=uJ hP.sorted hy1 j
 have h4:cn j y=0:=by unfold cn;rw[hyn];rfl
 have:=h.counts j z' hz' hj
 omega
theorem dI.LM {T:aK} (h:dI T) {d id:Int} {x y:eB} {n:Nm} (hx:ah d T=some x) (hk:x.kind=2) (hn:ah n x.names=some id) (hy:ah id T=some y) (hyk:y.kind≠2):
  dI (gI (Go.Proofs.YtmabllemjkcobaaGreatDoor.bX id (fun x=>{x with links:=x.links-1}) (aL T d n)) id):=by
 have hoy:=h.each id y hy
 have h0:=h.rF hy hyk
 have hid:id≠d:=fun e=>by subst e;rw[hx]at hy;cases hy;exact hyk hk
 have hk1:=hoy.kind.resolve_right hyk
 have hyn:=hoy.file hk1
 have hP:=h.tozl.cut (n:=n) hx hk
 have hy1:ah id (aL T d n)=some y:=by unfold aL;rw[aV,if_neg hid];exact hy
 have hg:ah id (Go.Proofs.YtmabllemjkcobaaGreatDoor.bX id (fun x=>{x with links:=x.links-1}) (aL T d n))=some {y with links:=y.links-1}:=by rw[aV,if_pos rfl,hy1];rfl
 have hcy:=h.counts id y hy h0
 have h1:=oI h.tozl hx hn id
 rw[if_pos rfl]at h1
 unfold gI
 rw[hg]
 simp only
 by_cases hc:y.links-1=0∧y.closed=true
 ·rw[if_pos hc]
  have e:bI id (Go.Proofs.YtmabllemjkcobaaGreatDoor.bX id (fun x=>{x with links:=x.links-1}) (aL T d n))=bI id (aL T d n):=by
   generalize aL T d n=L
   unfold bI Go.Proofs.YtmabllemjkcobaaGreatDoor.bX
   induction L with
   |nil=>rfl
   |cons y r ih=>
    rw[List.map_cons,List.filter_cons,List.filter_cons,ih]
    by_cases hy:y.1=id<;>simp[hy]
  rw[e]
  exact h.G9 hx hk hn hy hid h0 hyn (by omega)
 ·rw[if_neg hc]
  refine⟨hP.bX (f:=fun x=>{x with links:=x.links-1}) hy1 ⟨hoy.kind,hoy.file,fun h=>absurd h hyk,fun h=> ?_,hoy.sorted,hoy.good,hoy.size,?_,hoy.au⟩ rfl (hP.leads id y hy1),fun j z hz hj=> ?_⟩
  ·cases hcl:y.closed with
   |true=>exact absurd ⟨h,hcl⟩ hc
   |false=>rfl
  ·have:=hoy.links
   simp only
   omega
  ·have h3:=kV hP.sorted (fun x=>{x with links:=x.links-1}) hy1 j
   have h3':cn j {y with links:=y.links-1}=cn j y:=rfl
   have h4:=oI h.tozl hx hn j
   rw[aV]at hz
   by_cases hji:j=id
   ·subst hji
    rw[if_pos rfl,hy1]at hz
    simp only[Option.map_some,Option.some.injEq]at hz
    rw[if_pos rfl]at h4
    rw[←hz]
    simp only
    omega
   ·rw[if_neg hji]at hz
    rw[if_neg (Ne.symm hji)]at h4
    obtain⟨z',hz',hl',_⟩:=Ba hz
    have:=h.counts j z' hz' hj
    omega
theorem Bb {T:aK} {p:List Nm} (h:jk T p=0):bG p=0∧(aD T 0 p).2=0∧bB T (aD T 0 p).1≠2:=by
 unfold jk bq at h
 by_cases h1:bG p≠0
 ·rw[if_pos h1]at h
  simp only[if_pos h1]at h
  exact absurd h h1
 ·rw[if_neg h1]at h
  by_cases h2:(aD T 0 p).2≠0
  ·rw[if_pos h2]at h;exact absurd h h2
  ·rw[if_neg h2]at h
   by_cases h3:bB T (aD T 0 p).1=2
   ·rw[if_pos h3]at h;cases h
   ·exact⟨by omega,by omega,h3⟩
theorem dI.dP {T:aK} (h:dI T) (p:List Nm):dI (dP T p).2:=by
 unfold Go.Proofs.YtmabllemjkcobaaGreatDoor.dP
 by_cases he:jk T p=0
 ·simp only[if_pos he]
  obtain⟨h1,h2,h3⟩:=Bb he
  obtain⟨y,hy⟩:=Option.isSome_iff_exists.1 (jY h p 0 (jT h) h2)
  have hp:p≠[]:=fun e=>by subst e;exact h3 h.root
  obtain⟨d,x,n,e1,_,hx,hk,hn,_⟩:=dL (id:=(aD T 0 p).1) (Prod.ext rfl h2) hp
  rw[bR hy]at h3
  unfold sN
  rw[e1]
  exact h.LM hx hk hn hy h3
 ·simp only[if_neg he];exact h
theorem Da {T:aK} {p:List Nm} (h:iX T p=0):bG p=0∧(aD T 0 p).2=0∧bB T (aD T 0 p).1=2∧(aD T 0 p).1≠0∧aM T (aD T 0 p).1=[]:=by
 unfold iX bq at h
 by_cases h1:bG p≠0
 ·rw[if_pos h1]at h
  simp only[if_pos h1]at h
  exact absurd h h1
 ·rw[if_neg h1]at h
  by_cases h2:(aD T 0 p).2≠0
  ·rw[if_pos h2]at h;exact absurd h h2
  ·rw[if_neg h2]at h
   by_cases h3:bB T (aD T 0 p).1≠2
   ·rw[if_pos h3]at h;cases h
   ·rw[if_neg h3]at h
    by_cases h4:(aD T 0 p).1=0
    ·rw[if_pos h4]at h;cases h
    ·rw[if_neg h4]at h
     by_cases h5:0<(aM T (aD T 0 p).1).length
     ·rw[if_pos h5]at h;cases h
     ·exact⟨by omega,by omega,by omega,h4,List.eq_nil_of_length_eq_zero (by omega)⟩
theorem dI.eT {T:aK} (h:dI T) (p:List Nm):dI (eT T p).2:=by
 unfold Go.Proofs.YtmabllemjkcobaaGreatDoor.eT
 by_cases he:iX T p=0
 ·simp only[if_pos he]
  obtain⟨h1,h2,h3,h4,h5⟩:=Da he
  obtain⟨y,hy⟩:=Option.isSome_iff_exists.1 (jY h p 0 (jT h) h2)
  have hp:p≠[]:=fun e=>by subst e;exact h4 rfl
  obtain⟨d,x,n,e1,_,hx,hk,hn,_⟩:=dL (id:=(aD T 0 p).1) (Prod.ext rfl h2) hp
  have hyn:y.names=[]:=by unfold aM at h5;rw[hy]at h5;exact h5
  rw[bR hy]at h3
  unfold wL
  rw[e1]
  refine h.G9 hx hk hn hy (fun e=> ?_) h4 hyn ((h.each _ y hy).dir h3).1
  rw[e,hx]at hy
  cases hy
  rw[hyn]at hn
  cases hn
 ·simp only[if_neg he];exact h
end Go.Proofs.YtmabllemjkcobaaGreatDoor
