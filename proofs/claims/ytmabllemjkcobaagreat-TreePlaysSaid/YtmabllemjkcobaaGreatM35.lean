/- package codec: the writer. package codec: Short, Byte, Long, Flag, Raw, Bytes, Done, NewWriter. node.Right, node.Encode. slices.Sorted(maps.Keys(x.names)), of a directory or a file. What Save of package tree writes, plainly. -/
import Derived.Test.YtmabllemjkcobaaGreatM34
import Derived.Test.YtmabllemjkcobaaGreatM21
import Derived.Test.YtmabllemjkcobaaGreatM10
import Derived.WalkLawsBesides
import Derived.Deep.CutBlock
import Derived.Deep.DeepCutAuto
import Derived.Test.YtmabllemjkcobaaGreatM13
import Derived.Test.YtmabllemjkcobaaGreatM11
import Derived.Test.YtmabllemjkcobaaGreatM19
namespace Go.Proofs.YtmabllemjkcobaaGreat
open Go.ChangeShapes Go.WideShapes Go.ChangeAt Go.RowKit
set_option linter.unusedVariables false
set_option linter.unusedSimpArgs false
def gU (n:Int):Nat→List UInt8
 |0=>[]
 |s+1=>UInt8.ofNat ((n/2^(8*s)).toNat%256)::gU n s
structure eu (B:Nat) (w:World) (x:Nat) (v:Value) (bs:List UInt8):Prop where
 head:w.heap[x]? =some (.cells #[v] 186 (0,0))
 own:w.ownsRow B 5 1 v bs.length (bs.map bv)
 low:B≤x
 apart:v.ownBlock≠some x
def jX (B:Nat) (w:World) (x:Nat) (v:Value) (bs:List UInt8) (v':Value) (w':World):Prop:=
 eu B w' x v' bs∧Keeps (fun b=>b=x∨v.ownBlock=some b) w w'∧∀b,v'.ownBlock=some b→v.ownBlock=some b∨w.heap.size≤b
def qw (B:Nat) (w:World) (x:Nat) (v:Value) (bs:List UInt8) (e:Ending) (w':World):Prop:=e= .returned (.tuple #[])∧∃v',jX B w x v bs v' w'
section
variable {B x:Nat} {w w1 w2:World} {v v1 v2:Value} {bs bs1 bs2:List UInt8}
theorem eu.lt (h:eu B w x v bs):x<w.heap.size:=(Array.getElem?_eq_some_iff.1 h.head).1
theorem eu.cell (h:eu B w x v bs):w.cell? ⟨x,0,none⟩=some v:=by simp[World.cell?,h.head]
theorem eu.frozen (h:eu B w x v bs):w.frozen? ⟨x,0,none⟩=false:=by simp[World.frozen?,h.head]
theorem eu.kept (h:eu B w x v bs) (hs:w.heap.size≤w1.heap.size) (hx:w1.heap[x]? =w.heap[x]?) (hv:∀b,v.ownBlock=some b→w1.heap[b]? =w.heap[b]?):eu B w1 x v bs:=
 ⟨hx.trans h.head,kQ h.own fun b hb _=>hv b hb,h.low,h.apart⟩
theorem eu.below (h:eu B w x v bs) (hb:Below w.heap.size w w1):eu B w1 x v bs:=
 h.kept hb.size (hb.block x h.lt) fun b hb'=>hb.block b (mU h.own b hb')
theorem jX.refl (h:eu B w x v bs):jX B w x v bs v w:=⟨h,Keeps.refl _ _,fun b hb=> .inl hb⟩
theorem jX.trans (h:jX B w x v bs1 v1 w1) (k:jX B w1 x v1 bs2 v2 w2):jX B w x v bs2 v2 w2:=by
 obtain⟨h1,h2,h3⟩:=h
 obtain⟨k1,k2,k3⟩:=k
 have hs:=h2.size
 refine⟨k1,h2.trans k2 fun b hb hb1=> ?_,fun b hb=> ?_⟩
 ·rcases hb1 with h4|h4
  ·exact .inl h4
  ·rcases h3 b h4 with h5|h5
   ·exact .inr h5
   ·omega
 ·rcases k3 b hb with h4|h4
  ·exact h3 b h4
  ·exact .inr (by omega)
theorem jX.below (h:jX B w x v bs v1 w1) (hb:Below w1.heap.size w1 w2):jX B w x v bs v1 w2:=by
 obtain⟨h1,h2,h3⟩:=h
 exact⟨h1.below hb,h2.trans (Keeps.below hb) (fun b hb' hf=>by have:=h2.size;omega),h3⟩
end
theorem Ke {B x:Nat} {wr wa u1:World} {v1 v2:Value} {bs bs':List UInt8} (h:eu B wr x v1 bs) (ha:Below wr.heap.size wr wa) (hown:u1.ownsRow B 5 1 v2 bs'.length (bs'.map bv)) (hg:wa.grownBy u1 v1.ownBlock) (hat:v2.ownBlock=v1.ownBlock∨v2.ownBlock=some wa.heap.size):jX B wr x v1 bs' v2 (u1.setCell ⟨x,0,none⟩ v2):=by
 have hx:=h.lt
 have hs1:=ha.size
 have hs2:=hg.size
 have hxb:u1.heap[x]? =some (.cells #[v1] 186 (0,0)):=(hg.block x (by omega) (fun e=>h.apart e.symm)).trans ((ha.block x hx).trans h.head)
 have hap:v2.ownBlock≠some x:=by
  rcases hat with h1|h1
  ·rw[h1];exact h.apart
  ·rw[h1]
   intro e
   simp only[Option.some.injEq]at e
   omega
 refine⟨⟨?_,kQ hown fun b hb hbw=>b_ u1 _ _ _ (fun e=>hap (by rw[hb,e])),h.low,hap⟩,⟨hg.os.trans ha.os,hg.tape.trans ha.tape,hg.output.trans ha.output,by rw[size_set];omega,fun b hb hn=> ?_⟩,fun b hb=> ?_⟩
 ·simp only[World.setCell,Array.getElem?_modify,hxb]
  simp
 ·have h1:b≠x:=fun e=>hn (.inl e)
  have h2:v1.ownBlock≠some b:=fun e=>hn (.inr e)
  exact(b_ u1 _ _ _ h1).trans ((hg.block b (by omega) (fun e=>h2 e.symm)).trans (ha.block b hb))
 ·rcases hat with h1|h1
  ·exact .inl (h1▸hb)
  ·rw[h1]at hb
   cases hb
   exact .inr hs1
theorem qx {n:Int} (hn:0≤n) (k:Nat):IntKind.u8.wrap (n/2^(8*(k:Int)).toNat)=((UInt8.ofNat ((n/2^(8*k)).toNat%256)).toNat:Int):=by
 have e1:(8*(k:Int)).toNat=8*k:=by omega
 rw[e1]
 have h0:0≤n/2^(8*k):=Int.ediv_nonneg hn (Int.pow_nonneg (by decide))
 generalize n/2^(8*k)=y at h0
 have h1:(UInt8.ofNat (y.toNat%256)).toNat=y.toNat%256:=by simp
 rw[h1]
 simp only[IntKind.wrap,IntKind.bits,IntKind.signed]
 simp
 omega
set_option maxRecDepth 100000 in
set_option maxHeartbeats 4000000 in
theorem Eo {B x:Nat} {w:World} {v:Value} {bs:List UInt8} (h:eu B w x v bs) (n:Int) (s:Nat) (hn:0≤n) (hn':n≤18446744073709551615) (hs:s≤8) (hl:bs.length≤100000000):
  Calls Tryz.prog 139 #[ptr x, .int .u64 n, .int .i64 s] w (qw B w x v (bs++gU n s)):=by
 obtain⟨i8,hi⟩:∃i,Tryz.prog.info? 5=some i∧i.zero=some (.int .u8 0)∧i.size=1∧i.bytes=1:=info_parts (by kernel_rfl)
 have HI:=Lib.hid hi
 have HW:=Lib.hid h
 clear h hi
 go_enter Tryz.func139,Tryz.ntmps139
 go_wp2
 go_loopw [6] (fun kv wr=>∃(k:Nat) (dn:List UInt8) (v1:Value),k≤s∧kv= .int .i64 ((k:Int)-1)∧dn++gU n k=gU n s∧dn.length+k=s∧jX B w x v (bs++dn) v1 wr) (fun kv _=>((intOf kv)+1).toNat)
 case atStart=>exact⟨s,[],v,Nat.le_refl _,by go_num,rfl,by simp,by simpa using jX.refl HW.out⟩
 case round=>
  obtain⟨k,dn,v1,hk,rfl,hdn,hdl,hm⟩:=hrel
  have HM:=Lib.hid hm
  have c0:=hm.1.cell
  have f0:=hm.1.frozen
  clear hm
  cases k with
  |zero=>
   have Bv:=Lib.hid hdn
   have e0:((0:Nat):Int)-1= -1:=by omega
   rw[e0]
   clear hdn
   go_wp2_with fail
   go_end0
   refine⟨rfl,v1,?_⟩
   have h9:=Bv.out
   unfold gU at h9
   rw[List.append_nil]at h9
   cases s with
   |zero=>
    have:dn=[]:=List.eq_nil_of_length_eq_zero (by omega)
    subst this
    exact HM.out
   |succ s=>
    rw[←show dn=gU n (s+1)from by rw[h9];rfl]
    exact HM.out
  |succ k=>
   have hk0:(0:Int)≤k:=by omega
   have e1:((k+1:Nat):Int)-1=(k:Int):=by omega
   rw[e1]
   have e2:IntKind.i64.wrap (8*(k:Int))=8*(k:Int):=IntWalk.i64_in _ (by omega)
   have hge:decide ((0:Int)≤(k:Int))=true:=by simp
   have hbw:=qx hn k
   obtain⟨b0,hb0⟩:∃b0,b0=UInt8.ofNat ((n/2^(8*k)).toNat%256):=⟨_,rfl⟩
   rw[←hb0]at hbw
   have HB0:=Lib.hid hb0
   have Bv:=Lib.hid hdn
   have kU:Hid (∀w',Below wr.heap.size wr w'→w'.cell? ⟨x,0,none⟩=some v1∧w'.frozen? ⟨x,0,none⟩=false):=fun w' hb=>⟨(HM.out.1.below hb).cell,(HM.out.1.below hb).frozen⟩
   obtain⟨N,hN⟩:∃N,N=(bs++dn).length:=⟨_,rfl⟩
   have Zo:N≤100000008:=by rw[hN,List.length_append];omega
   have HOW:Hid (wr.ownsRow B 5 1 v1 N ((bs++dn).map bv)):=by rw[hN];exact HM.out.1.own
   have rC:=Lib.hid hN
   have hBw:B≤wr.heap.size:=Nat.le_of_lt (Nat.lt_of_le_of_lt HM.out.1.low HM.out.1.lt)
   clear hb0 hdn hN
   go_wp2_with fail
   refine wp_region_noPanic ?_
   refine dZ (last:=14) (S:=(fun w'=>w'.cell? ⟨x,0,none⟩=some v1∧w'.frozen? ⟨x,0,none⟩=false)) (by kernel_rfl) ?_ (fun hS=> ?_)
   ·exact kU.out _ (Below.refl _ _).drew
   refine bJ 0 (hS:=hS) (h:= ?_)
   refine bJ 1 (hS:=hS) (h:= ?_)
   refine bJ 2 (hS:=hS) (h:= ?_)
   refine bJ 3 (hS:=hS) (h:= ?_)
   refine bJ 4 (hS:=hS) (h:= ?_)
   refine bJ 5 (hS:=hS) (h:= ?_)
   refine bJ 6 (hS:=hS) (h:= ?_)
   refine bJ 7 (hS:=hS) (h:= ?_)
   refine bJ 8 (hS:=hS) (h:= ?_)
   refine bJ 9 (hS:=hS) (h:= ?_)
   refine kP 10 (h:=fun K hK=> ?_)
   go_simp
   have Hl:Below wr.heap.size wr (wr.drew.alloc (.cells #[bv b0] 5)):=(Below.refl _ _).drew.alloc (Nat.le_refl _) _
   refine hK.out _ _ (fun _=>kU.out _ Hl) (fun hS=> ?_)
   replace hS:=hS (by decide)
   clear hK K
   try simp only[Act.put,List.setIfInBounds_toArray,List.set_cons_zero,List.set_cons_succ]
   refine ak (rs:=[11]) (by kernel_rfl) (by simp) ?_
   refine ah.cons (o:= ?o1) ?ho1 (fun K hK=> ?_) ah.nil
   case ho1=>simp only[List.getElem?_toArray,List.getElem?_cons_succ,List.getElem?_cons_zero];rfl
   refine yS (by rfl) (.tmp 17) (.tmp 23) 39 (by rfl) B 5 i8 _ 1 Tryz.underlying39 HI.out.1 HI.out.2.1 HI.out.2.2.1 HI.out.2.2.2 rfl v1 N ((bs++dn).map bv) (by rfl) (kQ HOW.out fun b hb hbw=>Hl.block b hbw) (some ⟨wr.heap.size,0,none⟩) 1 1 [bv b0] (by rfl) (ng (w:=wr.drew) (bv b0) 5) (by simp[bv,Value.oneCell']) (by unfold maxLen;omega) (by omega) (by simp;omega) ?_
   intro A1 c1 u1 hown1 hg1 _ wh
   have IW:u1.heap[x]? =some (.cells #[v1] 186 (0,0)):=(hg1.block x (Nat.lt_of_lt_of_le HM.out.1.lt Hl.size) (fun e=>HM.out.1.apart e.symm)).trans ((Hl.block x HM.out.1.lt).trans HM.out.1.head)
   have hu:u1.cell? ⟨x,0,none⟩=some v1∧u1.frozen? ⟨x,0,none⟩=false:=⟨by simp[World.cell?,IW],by simp[World.frozen?,IW]⟩
   refine hK.out _ _ (fun _=>hu) (fun hS=> ?_)
   replace hS:=hS (by decide)
   clear hK K
   try simp only[Act.put,List.setIfInBounds_toArray,List.set_cons_zero,List.set_cons_succ]
   refine bJ 12 (hS:=hS) (h:= ?_)
   refine bJ 13 (hS:=hS) (h:= ?_)
   refine kP 14 (h:=fun K hK=> ?_)
   go_simp
   refine hK.out _ _ (fun h=>absurd rfl h) (fun hS=> ?_)
   clear hS hK K
   try simp only[Act.put,List.setIfInBounds_toArray,List.set_cons_zero,List.set_cons_succ]
   refine bg (by kernel_rfl) ?_ _
   refine NoPanic.normal ?_
   go_wp2
   go_roundw
   case rel=>
    refine⟨k,dn++[b0], .slice A1 (N+1) c1,by omega,by go_num,?_,by simp;omega,HM.out.trans (Ke HM.out.1 Hl ?_ hg1 wh)⟩
    ·rw[List.append_assoc,←Bv.out,HB0.out]
     rfl
    ·have h9:(bs++(dn++[b0])).length=N+1:=by rw[rC.out];simp;omega
     rw[h9]
     simpa using hown1
   case measure=>simp[intOf]
theorem uH (w:World):Calls Tryz.prog 86 #[] w fun e w'=>e= .returned (ptr w.heap.size)∧eu w.heap.size w' w.heap.size (.slice none 0 0) []∧Below w.heap.size w w':=by
 go_enter Tryz.func86,Tryz.ntmps86
 go_wp2
 go_ret
 exact⟨rfl,⟨(MapKept.heap_alloc w _).1,⟨rfl, .inl ⟨rfl,rfl⟩⟩,Nat.le_refl _,by simp[Value.ownBlock]⟩,wall w _⟩
section
variable {B x:Nat} {w:World} {v:Value} {bs:List UInt8}
theorem jX.low {bs':List UInt8} {v':Value} {w':World} (h:jX B w x v bs' v' w') (h0:eu B w x v bs):Below B w w':=
 h.2.1.jl (Nat.le_of_lt (Nat.lt_of_le_of_lt h0.low h0.lt)) fun b hb hf=>by
  rcases hf with h1|h1
  ·have:=h0.low;omega
  ·have:=gB h0.own b h1;omega
theorem lM (h:eu B w x v bs) (n:Int) (hn0:0≤n) (hn:n≤1000000000) (hl:bs.length≤100000000):Calls Tryz.prog 87 #[ptr x, .int .i64 n] w (qw B w x v (bs++gU n 2)):=by
 have HP:Hid (Calls Tryz.prog 139 #[ptr x, .int .u64 n, .int .i64 2] w (qw B w x v (bs++gU n 2))):=Eo h n 2 (by omega) (by omega) (by omega) hl
 have e1:IntKind.u64.wrap n=n:=by simp[IntKind.wrap,IntKind.bits,IntKind.signed];omega
 clear h
 go_enter Tryz.func87,Tryz.ntmps87
 go_wp2_with fail
 (with_reducible refine HP.out.mono ?_)
 rintro e w1 ⟨rfl,v1,hm⟩
 go_wp2_with fail
 go_end0
 exact⟨rfl,v1,hm⟩
theorem Aq (h:eu B w x v bs) (n:Int) (hn0:0≤n) (hn:n≤1000000000) (hl:bs.length≤100000000):Calls Tryz.prog 122 #[ptr x, .int .i64 n] w (qw B w x v (bs++gU n 1)):=by
 have HP:Hid (Calls Tryz.prog 139 #[ptr x, .int .u64 n, .int .i64 1] w (qw B w x v (bs++gU n 1))):=Eo h n 1 (by omega) (by omega) (by omega) hl
 have e1:IntKind.u64.wrap n=n:=by simp[IntKind.wrap,IntKind.bits,IntKind.signed];omega
 clear h
 go_enter Tryz.func122,Tryz.ntmps122
 go_wp2_with fail
 (with_reducible refine HP.out.mono ?_)
 rintro e w1 ⟨rfl,v1,hm⟩
 go_wp2_with fail
 go_end0
 exact⟨rfl,v1,hm⟩
theorem Oz (h:eu B w x v bs) (n:Int) (hn:0≤n) (hn':n≤18446744073709551615) (hl:bs.length≤100000000):Calls Tryz.prog 121 #[ptr x, .int .u64 n] w (qw B w x v (bs++gU n 8)):=by
 have HP:Hid (Calls Tryz.prog 139 #[ptr x, .int .u64 n, .int .i64 8] w (qw B w x v (bs++gU n 8))):=Eo h n 8 hn hn' (by omega) hl
 clear h
 go_enter Tryz.func121,Tryz.ntmps121
 go_wp2_with fail
 (with_reducible refine HP.out.mono ?_)
 rintro e w1 ⟨rfl,v1,hm⟩
 go_wp2_with fail
 go_end0
 exact⟨rfl,v1,hm⟩
def oF (f:Bool):List UInt8:=gU (if f then 1 else 0) 1
theorem OA (h:eu B w x v bs) (f:Bool) (hl:bs.length≤100000000):Calls Tryz.prog 143 #[ptr x, .bool f] w (qw B w x v (bs++oF f)):=by
 have rQ:=Lib.hid (Aq h 1 (by omega) (by omega) hl)
 have HP0:=Lib.hid (Aq h 0 (by omega) (by omega) hl)
 clear h
 cases f
 ·have HQ:Hid (Calls Tryz.prog 122 #[ptr x, .int .i64 0] w (qw B w x v (bs++oF false))):=HP0.out
  go_enter Tryz.func143,Tryz.ntmps143
  go_wp2_with fail
  (with_reducible refine HQ.out.mono ?_)
  rintro e w1 ⟨rfl,v1,hm⟩
  go_wp2_with fail
  go_end0
  exact⟨rfl,v1,hm⟩
 ·have HQ:Hid (Calls Tryz.prog 122 #[ptr x, .int .i64 1] w (qw B w x v (bs++oF true))):=rQ.out
  go_enter Tryz.func143,Tryz.ntmps143
  go_wp2_with fail
  (with_reducible refine HQ.out.mono ?_)
  rintro e w1 ⟨rfl,v1,hm⟩
  go_wp2_with fail
  (try simp only[Exit.inBlock,Exit.then])
  refine bodyPost_ret (results_none rfl _ _ _) rfl ?_
  exact⟨rfl,v1,hm⟩
theorem IX {u1:World} (h:eu B w x v bs) (hg:w.grownBy u1 v.ownBlock):u1.cell? ⟨x,0,none⟩=some v∧u1.frozen? ⟨x,0,none⟩=false:=by
 have IW:=(hg.block x h.lt (fun e=>h.apart e.symm)).trans h.head
 exact⟨by simp[World.cell?,IW],by simp[World.frozen?,IW]⟩
theorem Ra {S:Nat→Prop} (h:eu B w x v bs) (a:Option Addr) (m c:Nat) (l:List UInt8) (hr:aC S w a m (l.map bv)) (hl:bs.length≤100000000) (hm:m≤100000000):Calls Tryz.prog 123 #[ptr x, .slice a m c] w (qw B w x v (bs++l)):=by
 obtain⟨i8,hi⟩:∃i,Tryz.prog.info? 5=some i∧i.zero=some (.int .u8 0)∧i.size=1∧i.bytes=1:=info_parts (by kernel_rfl)
 have HI:=Lib.hid hi
 have HW:=Lib.hid h
 have HR:=Lib.hid hr
 have c0:=h.cell
 have f0:=h.frozen
 have hBw:B≤w.heap.size:=Nat.le_of_lt (Nat.lt_of_le_of_lt h.low h.lt)
 have hlm:l.length=m:=by simpa using hr.length
 have YT:=Lib.hid hlm
 clear h hi hr hlm
 obtain⟨N,hN⟩:∃N,N=bs.length:=⟨_,rfl⟩
 have HOW:Hid (w.ownsRow B 5 1 v N (bs.map bv)):=by rw[hN];exact HW.out.own
 have rC:=Lib.hid hN
 rw[←hN]at hl
 clear hN
 have hxw:=HW.out.lt
 go_enter Tryz.func123,Tryz.ntmps123
 go_wp2_with (at_builtin;refine bM rfl _ _ 39 rfl B 5 i8 _ 1 Tryz.underlying39 HI.out.1 HI.out.2.1 HI.out.2.2.1 HI.out.2.2.2 rfl v N (bs.map bv) rfl HOW.out a m c (l.map bv) rfl HR.out (iw l) (by unfold maxLen;omega) (by omega) hBw ?_;intro A1 c1 u1 hown1 hg1 _ wh;have IW:=IX HW.out hg1;have hcx:=IW.1;have hfx:=IW.2;clear IW)
 go_end0
 refine⟨rfl,_,Ke (wa:=w) HW.out (Below.refl _ _) ?_ hg1 wh⟩
 have h9:(bs++l).length=N+m:=by rw[List.length_append,←rC.out,YT.out]
 rw[h9,List.map_append]
 exact hown1
set_option maxHeartbeats 1000000 in
theorem Ep {S:Nat→Prop} (h:eu B w x v bs) (a:Option Addr) (m c:Nat) (l:List UInt8) (hr:aC S w a m (l.map bv)) (hS:∀b,S b→b≠x∧v.ownBlock≠some b) (hc:m≤c) (hl:bs.length≤90000000) (hm:m≤65535):Calls Tryz.prog 90 #[ptr x, .slice a m c] w (qw B w x v (bs++(gU m 2++l))):=by
 have HS:=Lib.hid (lM h (m:Int) (by omega) (by omega) (by omega))
 have HW:=Lib.hid h
 have HRR:=Lib.hid hr
 have HSS:=Lib.hid hS
 have e1:min (m:Int) 65535=(m:Int):=by omega
 have h0:(0:Int)≤(m:Int):=by omega
 have h1:(m:Int)≤(c:Int):=by omega
 clear h hr hS
 go_enter Tryz.func90,Tryz.ntmps90
 go_wp2_with fail
 (with_reducible refine HS.out.mono ?_)
 rintro e w1 ⟨rfl,v1,hm1⟩
 have HM:=Lib.hid hm1
 have hr1:aC S w1 a m (l.map bv):=HRR.out.kept hm1.2.1.size fun b hb hbw=>hm1.2.1.block b hbw fun hf=>by
  rcases hf with h4|h4
  ·exact(HSS.out b hb).1 h4
  ·exact(HSS.out b hb).2 h4
 have HRW:=Lib.hid (Ra hm1.1 a m c l hr1 (by rw[List.length_append];have:(gU (m:Int) 2).length=2:=rfl;omega) (by omega))
 clear hm1 hr1
 go_wp2_with fail
 (with_reducible refine HRW.out.mono ?_)
 rintro e w2 ⟨rfl,v2,hm2⟩
 go_wp2_with fail
 go_end0
 refine⟨rfl,v2,?_⟩
 have:=HM.out.trans hm2
 rw[List.append_assoc]at this
 exact this
theorem F7 (h:eu B w x v bs) (hl:bs.length≤100000000):Calls Tryz.prog 93 #[ptr x] w (zG w bs):=by
 obtain⟨a,c,rfl,hc⟩:=jo h.own
 obtain⟨_,hr⟩:=aC.mM h.own
 have HC:=Lib.hid (qM a bs.length c bs w (by omega) hr)
 have c0:=h.cell
 clear h hr
 go_enter Tryz.func93,Tryz.ntmps93
 go_wp2_with fail
 (with_reducible refine HC.out.mono ?_)
 rintro e w1 ⟨a1,n1,c1,rfl,hn1,hr1,hb1⟩
 go_wp2_with fail
 go_ret
 exact⟨a1,n1,c1,rfl,hn1,hr1,hb1⟩
end
set_option maxHeartbeats 2000000 in
theorem IY (k:Int) (x:bW) (h1:JI x) (hk:0≤k) (hk':k≤65535) (w:World):Calls Tryz.prog 142 #[jE k x] w fun e w'=>e= .returned (.bool true)∧Below w.heap.size w w':=by
 obtain⟨l0,l1⟩:=h1.links
 obtain⟨t0,t1⟩:=h1.aQ
 have hb:=h1.size
 obtain⟨n,hn⟩:∃n,n=x.b.length:=⟨_,rfl⟩
 rw[←hn]at hb
 have d1:decide (k<0)=false:=by simpa using hk
 have d2:decide (65535<k)=false:=by simpa using hk'
 have d3:decide (x.links<0)=false:=by simpa using l0
 have d4:decide (65535<x.links)=false:=by simp;omega
 have d5:decide ((n:Int)≤4096)=true:=by simp;omega
 have d6:decide (x.aQ≤1099511627776)=true:=by simpa using t1
 have d7:decide ((0:Int)≤(n:Int))=true:=by simp
 unfold jE
 rw[←hn]
 by_cases hk2:x.kind=2
 ·obtain⟨_,hcl,hbn,htl⟩:=h1.dir hk2
  have hn0:n=0:=by rw[hn,hbn];rfl
  subst hn0
  rw[hk2,hcl,htl]
  clear hn h1 hk2 hcl hbn htl d6
  go_enter Tryz.func142,Tryz.ntmps142
  go_wp2
  all_goals (first|(go_ret;exact⟨rfl,wall w _⟩)|((try simp only[Exit.inBlock,Exit.then]);refine bodyPost_ret (by rfl) rfl ?_;exact⟨rfl,wall w _⟩))
 ·have hk1:=h1.kind.resolve_right hk2
  rw[hk1]
  clear hn h1 hk2 hk1
  go_enter Tryz.func142,Tryz.ntmps142
  go_wp2
  all_goals (first|(go_ret;exact⟨rfl,wall w _⟩)|((try simp only[Exit.inBlock,Exit.then]);refine bodyPost_ret (by rfl) rfl ?_;exact⟨rfl,wall w _⟩))
def pR (k:Int) (x:bW):List UInt8:=gU k 2++gU x.kind 1++gU x.links 2++gU x.b.length 2++gU x.aQ 8++oF x.closed
theorem fD (n:Int):∀s,(gU n s).length=s
 |0=>rfl
 |s+1=>by unfold gU;rw[List.length_cons,fD n s]
theorem kR (k:Int) (x:bW):(pR k x).length=16:=by
 unfold pR oF
 simp only[List.length_append,fD]
set_option maxHeartbeats 4000000 in
theorem IZ (k:Int) (x:bW) (h1:JI x) (hk:0≤k) (hk':k≤65535) (w:World):Calls Tryz.prog 89 #[jE k x] w fun e w'=>∃a n c,e= .returned (.tuple #[.slice a n c, .int .i64 0])∧n≤c∧aC (fun b=>w.heap.size≤b∧b<w'.heap.size) w' a n ((pR k x).map bv)∧Below w.heap.size w w':=by
 have HR:=Lib.hid (fun w'=>IY k x h1 hk hk' w')
 obtain⟨l0,l1⟩:=h1.links
 obtain⟨t0,t1⟩:=h1.aQ
 have hb:=h1.size
 have hkd:0≤x.kind∧x.kind≤2:=by rcases h1.kind with h|h<;>omega
 obtain⟨kd0,kd1⟩:=hkd
 unfold pR
 obtain⟨n,hn⟩:∃n:Nat,n=x.b.length:=⟨_,rfl⟩
 rw[←hn]at hb
 unfold jE at HR⊢
 rw[←hn]at HR⊢
 clear h1 hn
 go_enter Tryz.func89,Tryz.ntmps89
 go_wp2_with fail
 (with_reducible refine(HR.out _).mono ?_)
 rintro e w1 ⟨rfl,hb1⟩
 have hsa:(w.alloc (.cells #[.int .i64 k, .int .i64 x.kind, .int .i64 x.links, .int .i64 n, .int .u64 x.aQ, .bool x.closed] 90)).heap.size=w.heap.size+1:=by simp
 have hs1:=hb1.size
 have HQ:Hid (∀w',Below w1.heap.size w1 w'→∀j,w'.cell? ⟨w.heap.size,j,none⟩=(#[.int .i64 k, .int .i64 x.kind, .int .i64 x.links, .int .i64 n, .int .u64 x.aQ, .bool x.closed]:Array Value)[j]?):=fun w' hb j=>by
  rw[hb.cell (p:=⟨w.heap.size,j,none⟩) (by simp only;omega),hb1.cell (p:=⟨w.heap.size,j,none⟩) (by simp)]
  exact gq (MapKept.heap_alloc w _).1 j
 have HB1:=Lib.hid ((wall w (.cells #[.int .i64 k, .int .i64 x.kind, .int .i64 x.links, .int .i64 n, .int .u64 x.aQ, .bool x.closed] 90)).trans (hb1.mono (by omega)))
 clear hb1 HR
 go_wp2_with fail
 (with_reducible refine(uH w1).mono ?_)
 rintro e w2 ⟨rfl,hW2,hb2⟩
 have HW2:=Lib.hid hW2
 have HB2:=Lib.hid hb2
 clear hW2 hb2
 have q0:w2.cell? ⟨w.heap.size,0,none⟩=some (.int .i64 k):=HQ.out _ HB2.out 0
 have Vd:=Lib.hid (lM HW2.out k (by omega) (by omega) (by simp only[List.length_append,List.length_nil,fD];omega))
 go_wp2_with fail
 (with_reducible refine Vd.out.mono ?_)
 rintro e w3 ⟨rfl,v3,Wh⟩
 have HW3:=Lib.hid Wh.1
 have HB3:=Lib.hid (HB2.out.trans (Wh.low HW2.out))
 clear q0 Wh Vd HW2 HB2
 have q1:w3.cell? ⟨w.heap.size,1,none⟩=some (.int .i64 x.kind):=HQ.out _ HB3.out 1
 have mQ:=Lib.hid (Aq HW3.out x.kind (by omega) (by omega) (by simp only[List.length_append,List.length_nil,fD];omega))
 go_wp2_with fail
 (with_reducible refine mQ.out.mono ?_)
 rintro e w4 ⟨rfl,v4,OB⟩
 have Wo:=Lib.hid OB.1
 have eO:=Lib.hid (HB3.out.trans (OB.low HW3.out))
 clear q1 OB mQ HW3 HB3
 have q2:w4.cell? ⟨w.heap.size,2,none⟩=some (.int .i64 x.links):=HQ.out _ eO.out 2
 have HS2:=Lib.hid (lM Wo.out x.links (by omega) (by omega) (by simp only[List.length_append,List.length_nil,fD];omega))
 go_wp2_with fail
 (with_reducible refine HS2.out.mono ?_)
 rintro e w5 ⟨rfl,v5,OC⟩
 have HW5:=Lib.hid OC.1
 have iW:=Lib.hid (eO.out.trans (OC.low Wo.out))
 clear q2 OC HS2 Wo eO
 have q3:w5.cell? ⟨w.heap.size,3,none⟩=some (.int .i64 n):=HQ.out _ iW.out 3
 have P5:=Lib.hid (lM HW5.out (n:Int) (by omega) (by omega) (by simp only[List.length_append,List.length_nil,fD];omega))
 go_wp2_with fail
 (with_reducible refine P5.out.mono ?_)
 rintro e w6 ⟨rfl,v6,Ve⟩
 have HW6:=Lib.hid Ve.1
 have ou:=Lib.hid (iW.out.trans (Ve.low HW5.out))
 clear q3 Ve P5 HW5 iW
 have q4:w6.cell? ⟨w.heap.size,4,none⟩=some (.int .u64 x.aQ):=HQ.out _ ou.out 4
 have M8:=Lib.hid (Oz HW6.out x.aQ (by omega) (by omega) (by simp only[List.length_append,List.length_nil,fD];omega))
 go_wp2_with fail
 (with_reducible refine M8.out.mono ?_)
 rintro e w7 ⟨rfl,v7,OD⟩
 have HW7:=Lib.hid OD.1
 have pO:=Lib.hid (ou.out.trans (OD.low HW6.out))
 clear q4 OD M8 HW6 ou
 have q5:w7.cell? ⟨w.heap.size,5,none⟩=some (.bool x.closed):=HQ.out _ pO.out 5
 have S9:=Lib.hid (OA HW7.out x.closed (by simp only[List.length_append,List.length_nil,fD];omega))
 go_wp2_with fail
 (with_reducible refine S9.out.mono ?_)
 rintro e w8 ⟨rfl,v8,XD⟩
 have HW8:=Lib.hid XD.1
 have vY:=Lib.hid (pO.out.trans (XD.low HW7.out))
 clear q5 XD S9 HW7 pO
 have HD:=Lib.hid (F7 HW8.out (by simp only[List.length_append,List.length_nil,fD,oF];omega))
 go_wp2_with fail
 (with_reducible refine HD.out.mono ?_)
 rintro e w9 ⟨a9,n9,c9,rfl,YU,XE,oW⟩
 have Ux:=Lib.hid XE
 have BA:=Lib.hid (vY.out.trans (oW.mono vY.out.size))
 have oC:=vY.out.size
 have hc9':=YU
 clear XE oW HD
 go_wp2_with fail
 go_ret2
 refine⟨a9,n9,c9,rfl,hc9',?_,HB1.out.trans (BA.out.mono HB1.out.size)⟩
 have h9:=Ux.out.mono (S':=fun b=>w.heap.size≤b∧b<w9.heap.size) fun b hb=>⟨by have:=HB1.out.size;omega,hb.2⟩
 simpa using h9
end Go.Proofs.YtmabllemjkcobaaGreat
namespace Go.Proofs
open Go.RowKit Go.Maps Go.Sort Go.Shelf
set_option maxHeartbeats 1000000 in
theorem Tryz.I4 (w:World):Calls Tryz.prog 91 #[.func (.func 146) #[] #[.pointer (some ⟨w.heap.size,0,none⟩)]] (w.alloc (.cells #[.map none] 112)) fun e w'=>e= .returned (.slice none 0 0)∧Below (w.alloc (.cells #[.map none] 112)).heap.size (w.alloc (.cells #[.map none] 112)) w':=by
 have hseq:SeqGives Fence.wide 2 Tryz.prog 146 #[.pointer (some ⟨w.heap.size,0,none⟩)] encStr (fun ss:List (List UInt8)=>ss=[]) 0 (w.alloc (.cells #[.map none] 112)):=
  AnyZ.keys_gives_nil (ρ:=Tryz.xu) {Tryz.Nt with} Fence.wide _ trivial rfl w.heap.size _ (by simp) (by simp)
 have h:=callsIn_wide.1 (AnyZ.sorted_in Tryz.J5 Fence.wide 5 trivial trivial trivial trivial rfl (by omega) (Tryz.Nu _) (enters_of Tryz.func145 (by kernel_rfl) rfl) 146 #[.pointer (some ⟨w.heap.size,0,none⟩)] trivial (enters_of Tryz.func146 (by kernel_rfl) rfl) _ 0 (Nat.zero_le _) (by omega) _ hseq)
 refine h.mono ?_
 rintro e w' ⟨v,ss,rfl,rfl,hrow,hnil,hb⟩
 obtain rfl:v= .slice none 0 0:=hnil.2 rfl
 exact⟨rfl,hb⟩
end Go.Proofs
namespace Go.Proofs.YtmabllemjkcobaaGreat
open Go.ChangeShapes Go.WideShapes Go.ChangeAt Go.RowKit
set_option linter.unusedVariables false
set_option linter.unusedSimpArgs false
def Rb (w:World) (L:List Nm) (e:Ending) (w':World):Prop:=
 ∃a c,e= .returned (.slice a L.length c)∧L.length≤c∧aK (fun x=>w.heap.size≤x∧x<w'.heap.size) w' a L.length (L.map strOf)∧Below w.heap.size w w'
section
variable {g:Nat→Own} {D:Nat→Prop} {p mb:Nat} {ib nb:Int→Nat} {T:aG}
set_option maxHeartbeats 1000000 in
theorem sorted_at (k:Int) (x:bW) (w:World) (h:aO g D w p mb ib nb T) (hT:dX T) (hx:aj k T=some x):
  Calls Tryz.prog 91 #[.func (.func 146) #[] #[.pointer (some ⟨w.heap.size,0,none⟩)]] (w.alloc (.cells #[gF x (nb k)] 112)) (Rb (w.alloc (.cells #[gF x (nb k)] 112)) (x.names.map (·.1))):=by
 have O1:=hT.each k x hx
 have vH:=hT.few hx
 by_cases hk:x.kind=2
 ·have e2:gF x (nb k)= .map (some (nb k)):=if_pos hk
  rw[e2]
  have hM:=(h.item k x hx).names hk
  have hsz:(cO x).length=x.names.length:=List.length_map _
  refine(Tryz.CJ (nb k) (cO x).length (vk dN (cO x)) mI w hM (by rw[kL,hsz];unfold maxLen;omega) (by rw[kL,hsz];omega)).mono ?_
  rintro e w' ⟨v,ss,rfl,hp,hown,hnil,hB⟩
  rw[yj]at hp
  have hml:(cO x).map (·.1)=x.names.map (·.1):=by unfold cO;rw[List.map_map];rfl
  rw[hml]at hp
  rw[vM O1.sorted hp]at hown
  have hlen:ss.length=(x.names.map (·.1)).length:=hp.length_eq
  have hgood:∀s∈(x.names.map (·.1)).map strOf,s.size≤maxLen:=by
   intro s hs
   obtain⟨l,hl,rfl⟩:=List.mem_map.1 hs
   obtain⟨e,he,rfl⟩:=List.mem_map.1 hl
   have:=n_ _ (O1.good e he)
   rw[fV];unfold maxLen;omega
  obtain⟨a,c,rfl,hc⟩:=jo hown
  obtain⟨_,hr⟩:=aC.mM hown
  rw[hlen]at hr hc
  have hr2:aC (fun x_1=>(w.alloc (.cells #[.map (some (nb k))] 112)).heap.size≤x_1∧x_1<w'.heap.size) w' a (x.names.map (·.1)).length (((x.names.map (·.1)).map strOf).map .string):=by
   rw[List.map_map]
   exact hr
  exact⟨a,c,by rw[hlen],hc,⟨hr2,hgood⟩,hB⟩
 ·have e2:gF x (nb k)= .map none:=if_neg hk
  have hnil:x.names=[]:=O1.file (O1.kind.resolve_right hk)
  rw[e2,hnil]
  refine(Tryz.I4 w).mono ?_
  rintro e w' ⟨rfl,hB⟩
  exact⟨none,0,rfl,Nat.le_refl _,⟨aC.nil _ _ _,by simp⟩,hB⟩
end
def rM (l:List UInt8):List UInt8:=gU l.length 2++l
def F8 (e:Nm×Int):List UInt8:=rM e.1++gU e.2 2
def jY (k:Int) (x:bW):List UInt8:=rM (pR k x)++rM x.b++gU x.names.length 2++x.names.flatMap F8
def iO (T:aG):List UInt8:=gU T.length 2++T.flatMap fun q=>jY q.1 q.2
theorem mq {n:Nm} (h:dw n=true):n.length≤16:=by
 unfold dw at h
 simp only[Bool.and_eq_true,decide_eq_true_eq]at h
 exact h.1.1.2
theorem qy (l:List UInt8):(rM l).length=2+l.length:=by unfold rM;rw[List.length_append,fD]
theorem Er:∀(l:List (Nm×Int)),(∀e∈l,e.1.length≤16)→(l.flatMap F8).length≤20*l.length
 |[],_=>by simp
 |e::r,h=>by
  have h1:=h e (by simp)
  have h2:=Er r fun y hy=>h y (by simp[hy])
  simp only[List.flatMap_cons,List.length_append,List.length_cons,F8,qy,fD]
  omega
theorem OE {k:Int} {x:bW} (h:JI x) (hf:x.names.length≤4096):(jY k x).length≤90000:=by
 have h1:=Er x.names fun e he=>mq (h.good e he)
 have h2:=h.size
 unfold jY
 simp only[List.length_append,qy,fD,kR]
 omega
theorem qz {T:aG} (hT:dX T):∀(l:aG),(∀q∈l,q∈T)→(l.flatMap fun q=>jY q.1 q.2).length≤90000*l.length
 |[],_=>by simp
 |q::r,h=>by
  have hq:=bf dU hT.sorted (h q (by simp))
  have h1:=OE (k:=q.1) (hT.each _ _ hq) (hT.few hq)
  have h2:=qz hT r fun y hy=>h y (by simp[hy])
  simp only[List.flatMap_cons,List.length_append,List.length_cons]
  omega
end Go.Proofs.YtmabllemjkcobaaGreat
