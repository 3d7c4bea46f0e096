/- package codec: the writer. package codec: Short, Byte, Long, Flag, Raw, Bytes, Done, NewWriter. node.Right, node.Encode. slices.Sorted(maps.Keys(x.names)), of a directory or a file. What Save of package tree writes, plainly. -/
import Derived.Test.YtohpcppeajijnaaGreatM35
import Derived.Test.YtohpcppeajijnaaGreatM20
import Derived.Test.YtohpcppeajijnaaGreatM09
import Derived.WalkLawsBesides
import Derived.Deep.CutBlock
import Derived.Deep.DeepCutAuto
import Derived.Test.YtohpcppeajijnaaGreatM12
import Derived.Test.YtohpcppeajijnaaGreatM10
import Derived.Test.YtohpcppeajijnaaGreatM18
import Derived.Test.YtohpcppeajijnaaGreatM33
namespace Go.Proofs.YtohpcppeajijnaaGreat
open Go.ChangeShapes Go.WideShapes Go.ChangeAt Go.RowKit
set_option linter.unusedVariables false
set_option linter.unusedSimpArgs false
def iL (n:Int):Nat→List UInt8
 |0=>[]
 |s+1=>UInt8.ofNat ((n/2^(8*s)).toNat%256)::iL n s
structure dx (B:Nat) (w:World) (x:Nat) (v:Value) (bs:List UInt8):Prop where
 head:w.heap[x]? =some (.cells #[v] 181 (0,0))
 own:w.ownsRow B 5 1 v bs.length (bs.map bv)
 low:B≤x
 apart:v.ownBlock≠some x
def jk (B:Nat) (w:World) (x:Nat) (v:Value) (bs:List UInt8) (v':Value) (w':World):Prop:=
 dx B w' x v' bs∧Keeps (fun b=>b=x∨v.ownBlock=some b) w w'∧∀b,v'.ownBlock=some b→v.ownBlock=some b∨w.heap.size≤b
def nO (B:Nat) (w:World) (x:Nat) (v:Value) (bs:List UInt8) (e:Ending) (w':World):Prop:=e= .returned (.tuple #[])∧∃v',jk B w x v bs v' w'
section
variable {B x:Nat} {w w1 w2:World} {v v1 v2:Value} {bs XE Vu:List UInt8}
theorem dx.lt (h:dx B w x v bs):x<w.heap.size:=(Array.getElem?_eq_some_iff.1 h.head).1
theorem dx.cell (h:dx B w x v bs):w.cell? ⟨x,0,none⟩=some v:=by simp[World.cell?,h.head]
theorem dx.frozen (h:dx B w x v bs):w.frozen? ⟨x,0,none⟩=false:=by simp[World.frozen?,h.head]
theorem dx.kept (h:dx B w x v bs) (hs:w.heap.size≤w1.heap.size) (hx:w1.heap[x]? =w.heap[x]?) (hv:∀b,v.ownBlock=some b→w1.heap[b]? =w.heap[b]?):dx B w1 x v bs:=
 ⟨hx.trans h.head,xk h.own fun b hb _=>hv b hb,h.low,h.apart⟩
theorem dx.below (h:dx B w x v bs) (hb:Below w.heap.size w w1):dx B w1 x v bs:=
 h.kept hb.size (hb.block x h.lt) fun b hb'=>hb.block b (xq h.own b hb')
theorem jk.refl (h:dx B w x v bs):jk B w x v bs v w:=⟨h,Keeps.refl _ _,fun b hb=> .inl hb⟩
theorem jk.trans (h:jk B w x v XE v1 w1) (k:jk B w1 x v1 Vu v2 w2):jk B w x v Vu v2 w2:=by
 obtain⟨h1,h2,h3⟩:=h
 obtain⟨k1,k2,k3⟩:=k
 have hs:=h2.size
 refine⟨k1,h2.trans k2 fun b hb hb1=> ?_,fun b hb=> ?_⟩
 ·rcases hb1 with h4|h4
  ·exact .inl h4
  ·rcases h3 b h4 with h5|h5
   ·exact .inr h5
   ·omega
 ·rcases k3 b hb with h4|h4
  ·exact h3 b h4
  ·exact .inr (by omega)
theorem jk.below (h:jk B w x v bs v1 w1) (hb:Below w1.heap.size w1 w2):jk B w x v bs v1 w2:=by
 obtain⟨h1,h2,h3⟩:=h
 exact⟨h1.below hb,h2.trans (Keeps.below hb) (fun b hb' hf=>by have:=h2.size;omega),h3⟩
end
theorem EM {B x:Nat} {wr wa u1:World} {v1 v2:Value} {bs bs':List UInt8} (h:dx B wr x v1 bs) (ha:Below wr.heap.size wr wa) (hown:u1.ownsRow B 5 1 v2 bs'.length (bs'.map bv)) (hg:wa.grownBy u1 v1.ownBlock) (hat:v2.ownBlock=v1.ownBlock∨v2.ownBlock=some wa.heap.size):jk B wr x v1 bs' v2 (u1.setCell ⟨x,0,none⟩ v2):=by
 have hx:=h.lt
 have hs1:=ha.size
 have hs2:=hg.size
 have hxb:u1.heap[x]? =some (.cells #[v1] 181 (0,0)):=(hg.block x (by omega) (fun e=>h.apart e.symm)).trans ((ha.block x hx).trans h.head)
 have hap:v2.ownBlock≠some x:=by
  rcases hat with h1|h1
  ·rw[h1];exact h.apart
  ·rw[h1]
   intro e
   simp only[Option.some.injEq]at e
   omega
 refine⟨⟨?_,xk hown fun b hb hbw=>bH u1 _ _ _ (fun e=>hap (by rw[hb,e])),h.low,hap⟩,⟨hg.os.trans ha.os,hg.tape.trans ha.tape,hg.output.trans ha.output,by rw[size_set];omega,fun b hb hn=> ?_⟩,fun b hb=> ?_⟩
 ·simp only[World.setCell,Array.getElem?_modify,hxb]
  simp
 ·have h1:b≠x:=fun e=>hn (.inl e)
  have h2:v1.ownBlock≠some b:=fun e=>hn (.inr e)
  exact(bH u1 _ _ _ h1).trans ((hg.block b (by omega) (fun e=>h2 e.symm)).trans (ha.block b hb))
 ·rcases hat with h1|h1
  ·exact .inl (h1▸hb)
  ·rw[h1]at hb
   cases hb
   exact .inr hs1
theorem Gd {n:Int} (hn:0≤n) (k:Nat):IntKind.u8.wrap (n/2^(8*(k:Int)).toNat)=((UInt8.ofNat ((n/2^(8*k)).toNat%256)).toNat:Int):=by
 have e1:(8*(k:Int)).toNat=8*k:=by omega
 rw[e1]
 have h0:0≤n/2^(8*k):=Int.ediv_nonneg hn (Int.pow_nonneg (by decide))
 generalize n/2^(8*k)=y at h0
 have h1:(UInt8.ofNat (y.toNat%256)).toNat=y.toNat%256:=by simp
 rw[h1]
 simp only[IntKind.wrap,IntKind.bits,IntKind.signed]
 simp
 omega
set_option maxRecDepth 100000 in
set_option maxHeartbeats 4000000 in
theorem Al {B x:Nat} {w:World} {v:Value} {bs:List UInt8} (h:dx B w x v bs) (n:Int) (s:Nat) (hn:0≤n) (hn':n≤18446744073709551615) (hs:s≤8) (hl:bs.length≤100000000):
  Calls Tryz.prog 131 #[ptr x, .int .u64 n, .int .i64 s] w (nO B w x v (bs++iL n s)):=by
 obtain⟨i8,hi⟩:∃i,Tryz.prog.info? 5=some i∧i.zero=some (.int .u8 0)∧i.size=1∧i.bytes=1:=info_parts (by kernel_rfl)
 have HI:=Lib.hid hi
 have HW:=Lib.hid h
 clear h hi
 go_enter Tryz.func131,Tryz.ntmps131
 go_wp2
 go_loopw [6] (fun kv wr=>∃(k:Nat) (dn:List UInt8) (v1:Value),k≤s∧kv= .int .i64 ((k:Int)-1)∧dn++iL n k=iL n s∧dn.length+k=s∧jk B w x v (bs++dn) v1 wr) (fun kv _=>((intOf kv)+1).toNat)
 case atStart=>exact⟨s,[],v,Nat.le_refl _,by go_num,rfl,by simp,by simpa using jk.refl HW.out⟩
 case round=>
  obtain⟨k,dn,v1,hk,rfl,hdn,hdl,hm⟩:=hrel
  have HM:=Lib.hid hm
  have c0:=hm.1.cell
  have f0:=hm.1.frozen
  clear hm
  cases k with
  |zero=>
   have Bj:=Lib.hid hdn
   have e0:((0:Nat):Int)-1= -1:=by omega
   rw[e0]
   clear hdn
   go_wp2_with fail
   go_end0
   refine⟨rfl,v1,?_⟩
   have h9:=Bj.out
   unfold iL at h9
   rw[List.append_nil]at h9
   cases s with
   |zero=>
    have:dn=[]:=List.eq_nil_of_length_eq_zero (by omega)
    subst this
    exact HM.out
   |succ s=>
    rw[←show dn=iL n (s+1)from by rw[h9];rfl]
    exact HM.out
  |succ k=>
   have hk0:(0:Int)≤k:=by omega
   have e1:((k+1:Nat):Int)-1=(k:Int):=by omega
   rw[e1]
   have e2:IntKind.i64.wrap (8*(k:Int))=8*(k:Int):=IntWalk.i64_in _ (by omega)
   have hge:decide ((0:Int)≤(k:Int))=true:=by simp
   have hbw:=Gd hn k
   obtain⟨b0,hb0⟩:∃b0,b0=UInt8.ofNat ((n/2^(8*k)).toNat%256):=⟨_,rfl⟩
   rw[←hb0]at hbw
   have HB0:=Lib.hid hb0
   have Bj:=Lib.hid hdn
   have jR:Hid (∀w',Below wr.heap.size wr w'→w'.cell? ⟨x,0,none⟩=some v1∧w'.frozen? ⟨x,0,none⟩=false):=fun w' hb=>⟨(HM.out.1.below hb).cell,(HM.out.1.below hb).frozen⟩
   obtain⟨N,hN⟩:∃N,N=(bs++dn).length:=⟨_,rfl⟩
   have Va:N≤100000008:=by rw[hN,List.length_append];omega
   have HOW:Hid (wr.ownsRow B 5 1 v1 N ((bs++dn).map bv)):=by rw[hN];exact HM.out.1.own
   have qL:=Lib.hid hN
   have hBw:B≤wr.heap.size:=Nat.le_of_lt (Nat.lt_of_le_of_lt HM.out.1.low HM.out.1.lt)
   clear hb0 hdn hN
   go_wp2_with fail
   refine wp_region_noPanic ?_
   refine dQ (last:=14) (S:=(fun w'=>w'.cell? ⟨x,0,none⟩=some v1∧w'.frozen? ⟨x,0,none⟩=false)) (by kernel_rfl) ?_ (fun hS=> ?_)
   ·exact jR.out _ (Below.refl _ _).drew
   refine bf 0 (hS:=hS) (h:= ?_)
   refine bf 1 (hS:=hS) (h:= ?_)
   refine bf 2 (hS:=hS) (h:= ?_)
   refine bf 3 (hS:=hS) (h:= ?_)
   refine bf 4 (hS:=hS) (h:= ?_)
   refine bf 5 (hS:=hS) (h:= ?_)
   refine bf 6 (hS:=hS) (h:= ?_)
   refine bf 7 (hS:=hS) (h:= ?_)
   refine bf 8 (hS:=hS) (h:= ?_)
   refine bf 9 (hS:=hS) (h:= ?_)
   refine mP 10 (h:=fun K hK=> ?_)
   go_simp
   have FX:Below wr.heap.size wr (wr.drew.alloc (.cells #[bv b0] 5)):=(Below.refl _ _).drew.alloc (Nat.le_refl _) _
   refine hK.out _ _ (fun _=>jR.out _ FX) (fun hS=> ?_)
   replace hS:=hS (by decide)
   clear hK K
   try simp only[Act.put,List.setIfInBounds_toArray,List.set_cons_zero,List.set_cons_succ]
   refine au (rs:=[11]) (by kernel_rfl) (by simp) ?_
   refine ah.cons (o:= ?o1) ?ho1 (fun K hK=> ?_) ah.nil
   case ho1=>simp only[List.getElem?_toArray,List.getElem?_cons_succ,List.getElem?_cons_zero];rfl
   refine vB (by rfl) (.tmp 17) (.tmp 23) 39 (by rfl) B 5 i8 _ 1 Tryz.underlying39 HI.out.1 HI.out.2.1 HI.out.2.2.1 HI.out.2.2.2 rfl v1 N ((bs++dn).map bv) (by rfl) (xk HOW.out fun b hb hbw=>FX.block b hbw) (some ⟨wr.heap.size,0,none⟩) 1 1 [bv b0] (by rfl) (En (w:=wr.drew) (bv b0) 5) (by simp[bv,Value.oneCell']) (by unfold maxLen;omega) (by omega) (by simp;omega) ?_
   intro A1 c1 u1 hown1 hg1 _ Ow
   have K7:u1.heap[x]? =some (.cells #[v1] 181 (0,0)):=(hg1.block x (Nat.lt_of_lt_of_le HM.out.1.lt FX.size) (fun e=>HM.out.1.apart e.symm)).trans ((FX.block x HM.out.1.lt).trans HM.out.1.head)
   have hu:u1.cell? ⟨x,0,none⟩=some v1∧u1.frozen? ⟨x,0,none⟩=false:=⟨by simp[World.cell?,K7],by simp[World.frozen?,K7]⟩
   refine hK.out _ _ (fun _=>hu) (fun hS=> ?_)
   replace hS:=hS (by decide)
   clear hK K
   try simp only[Act.put,List.setIfInBounds_toArray,List.set_cons_zero,List.set_cons_succ]
   refine bf 12 (hS:=hS) (h:= ?_)
   refine bf 13 (hS:=hS) (h:= ?_)
   refine mP 14 (h:=fun K hK=> ?_)
   go_simp
   refine hK.out _ _ (fun h=>absurd rfl h) (fun hS=> ?_)
   clear hS hK K
   try simp only[Act.put,List.setIfInBounds_toArray,List.set_cons_zero,List.set_cons_succ]
   refine bA (by kernel_rfl) ?_ _
   refine NoPanic.normal ?_
   go_wp2
   go_roundw
   case rel=>
    refine⟨k,dn++[b0], .slice A1 (N+1) c1,by omega,by go_num,?_,by simp;omega,HM.out.trans (EM HM.out.1 FX ?_ hg1 Ow)⟩
    ·rw[List.append_assoc,←Bj.out,HB0.out]
     rfl
    ·have h9:(bs++(dn++[b0])).length=N+1:=by rw[qL.out];simp;omega
     rw[h9]
     simpa using hown1
   case measure=>simp[intOf]
theorem q9 (w:World):Calls Tryz.prog 82 #[] w fun e w'=>e= .returned (ptr w.heap.size)∧dx w.heap.size w' w.heap.size (.slice none 0 0) []∧Below w.heap.size w w':=by
 go_enter Tryz.func82,Tryz.ntmps82
 go_wp2
 go_ret
 exact⟨rfl,⟨(MapKept.heap_alloc w _).1,⟨rfl, .inl ⟨rfl,rfl⟩⟩,Nat.le_refl _,by simp[Value.ownBlock]⟩,wall w _⟩
section
variable {B x:Nat} {w:World} {v:Value} {bs:List UInt8}
theorem jk.low {bs':List UInt8} {v':Value} {w':World} (h:jk B w x v bs' v' w') (h0:dx B w x v bs):Below B w w':=
 h.2.1.jd (Nat.le_of_lt (Nat.lt_of_le_of_lt h0.low h0.lt)) fun b hb hf=>by
  rcases hf with h1|h1
  ·have:=h0.low;omega
  ·have:=iA h0.own b h1;omega
theorem kg (h:dx B w x v bs) (n:Int) (hn0:0≤n) (hn:n≤1000000000) (hl:bs.length≤100000000):Calls Tryz.prog 83 #[ptr x, .int .i64 n] w (nO B w x v (bs++iL n 2)):=by
 have HP:Hid (Calls Tryz.prog 131 #[ptr x, .int .u64 n, .int .i64 2] w (nO B w x v (bs++iL n 2))):=Al h n 2 (by omega) (by omega) (by omega) hl
 have e1:IntKind.u64.wrap n=n:=by simp[IntKind.wrap,IntKind.bits,IntKind.signed];omega
 clear h
 go_enter Tryz.func83,Tryz.ntmps83
 go_wp2_with fail
 (with_reducible refine HP.out.mono ?_)
 rintro e w1 ⟨rfl,v1,hm⟩
 go_wp2_with fail
 go_end0
 exact⟨rfl,v1,hm⟩
theorem xu (h:dx B w x v bs) (n:Int) (hn0:0≤n) (hn:n≤1000000000) (hl:bs.length≤100000000):Calls Tryz.prog 119 #[ptr x, .int .i64 n] w (nO B w x v (bs++iL n 1)):=by
 have HP:Hid (Calls Tryz.prog 131 #[ptr x, .int .u64 n, .int .i64 1] w (nO B w x v (bs++iL n 1))):=Al h n 1 (by omega) (by omega) (by omega) hl
 have e1:IntKind.u64.wrap n=n:=by simp[IntKind.wrap,IntKind.bits,IntKind.signed];omega
 clear h
 go_enter Tryz.func119,Tryz.ntmps119
 go_wp2_with fail
 (with_reducible refine HP.out.mono ?_)
 rintro e w1 ⟨rfl,v1,hm⟩
 go_wp2_with fail
 go_end0
 exact⟨rfl,v1,hm⟩
theorem Ji (h:dx B w x v bs) (n:Int) (hn:0≤n) (hn':n≤18446744073709551615) (hl:bs.length≤100000000):Calls Tryz.prog 118 #[ptr x, .int .u64 n] w (nO B w x v (bs++iL n 8)):=by
 have HP:Hid (Calls Tryz.prog 131 #[ptr x, .int .u64 n, .int .i64 8] w (nO B w x v (bs++iL n 8))):=Al h n 8 hn hn' (by omega) hl
 clear h
 go_enter Tryz.func118,Tryz.ntmps118
 go_wp2_with fail
 (with_reducible refine HP.out.mono ?_)
 rintro e w1 ⟨rfl,v1,hm⟩
 go_wp2_with fail
 go_end0
 exact⟨rfl,v1,hm⟩
def oO (f:Bool):List UInt8:=iL (if f then 1 else 0) 1
theorem Jj (h:dx B w x v bs) (f:Bool) (hl:bs.length≤100000000):Calls Tryz.prog 135 #[ptr x, .bool f] w (nO B w x v (bs++oO f)):=by
 have pq:=Lib.hid (xu h 1 (by omega) (by omega) hl)
 have XF:=Lib.hid (xu h 0 (by omega) (by omega) hl)
 clear h
 cases f
 ·have HQ:Hid (Calls Tryz.prog 119 #[ptr x, .int .i64 0] w (nO B w x v (bs++oO false))):=XF.out
  go_enter Tryz.func135,Tryz.ntmps135
  go_wp2_with fail
  (with_reducible refine HQ.out.mono ?_)
  rintro e w1 ⟨rfl,v1,hm⟩
  go_wp2_with fail
  go_end0
  exact⟨rfl,v1,hm⟩
 ·have HQ:Hid (Calls Tryz.prog 119 #[ptr x, .int .i64 1] w (nO B w x v (bs++oO true))):=pq.out
  go_enter Tryz.func135,Tryz.ntmps135
  go_wp2_with fail
  (with_reducible refine HQ.out.mono ?_)
  rintro e w1 ⟨rfl,v1,hm⟩
  go_wp2_with fail
  (try simp only[Exit.inBlock,Exit.then])
  refine bodyPost_ret (results_none rfl _ _ _) rfl ?_
  exact⟨rfl,v1,hm⟩
theorem DC {u1:World} (h:dx B w x v bs) (hg:w.grownBy u1 v.ownBlock):u1.cell? ⟨x,0,none⟩=some v∧u1.frozen? ⟨x,0,none⟩=false:=by
 have K7:=(hg.block x h.lt (fun e=>h.apart e.symm)).trans h.head
 exact⟨by simp[World.cell?,K7],by simp[World.frozen?,K7]⟩
theorem K8 {S:Nat→Prop} (h:dx B w x v bs) (a:Option Addr) (m c:Nat) (l:List UInt8) (hr:av S w a m (l.map bv)) (hl:bs.length≤100000000) (hm:m≤100000000):Calls Tryz.prog 120 #[ptr x, .slice a m c] w (nO B w x v (bs++l)):=by
 obtain⟨i8,hi⟩:∃i,Tryz.prog.info? 5=some i∧i.zero=some (.int .u8 0)∧i.size=1∧i.bytes=1:=info_parts (by kernel_rfl)
 have HI:=Lib.hid hi
 have HW:=Lib.hid h
 have HR:=Lib.hid hr
 have c0:=h.cell
 have f0:=h.frozen
 have hBw:B≤w.heap.size:=Nat.le_of_lt (Nat.lt_of_le_of_lt h.low h.lt)
 have hlm:l.length=m:=by simpa using hr.length
 have XG:=Lib.hid hlm
 clear h hi hr hlm
 obtain⟨N,hN⟩:∃N,N=bs.length:=⟨_,rfl⟩
 have HOW:Hid (w.ownsRow B 5 1 v N (bs.map bv)):=by rw[hN];exact HW.out.own
 have qL:=Lib.hid hN
 rw[←hN]at hl
 clear hN
 have hxw:=HW.out.lt
 go_enter Tryz.func120,Tryz.ntmps120
 go_wp2_with (at_builtin;refine gL rfl _ _ 39 rfl B 5 i8 _ 1 Tryz.underlying39 HI.out.1 HI.out.2.1 HI.out.2.2.1 HI.out.2.2.2 rfl v N (bs.map bv) rfl HOW.out a m c (l.map bv) rfl HR.out (lN l) (by unfold maxLen;omega) (by omega) hBw ?_;intro A1 c1 u1 hown1 hg1 _ Ow;have K7:=DC HW.out hg1;have hcx:=K7.1;have hfx:=K7.2;clear K7)
 go_end0
 refine⟨rfl,_,EM (wa:=w) HW.out (Below.refl _ _) ?_ hg1 Ow⟩
 have h9:(bs++l).length=N+m:=by rw[List.length_append,←qL.out,XG.out]
 rw[h9,List.map_append]
 exact hown1
set_option maxHeartbeats 1000000 in
theorem Am {S:Nat→Prop} (h:dx B w x v bs) (a:Option Addr) (m c:Nat) (l:List UInt8) (hr:av S w a m (l.map bv)) (hS:∀b,S b→b≠x∧v.ownBlock≠some b) (hc:m≤c) (hl:bs.length≤90000000) (hm:m≤65535):Calls Tryz.prog 86 #[ptr x, .slice a m c] w (nO B w x v (bs++(iL m 2++l))):=by
 have HS:=Lib.hid (kg h (m:Int) (by omega) (by omega) (by omega))
 have HW:=Lib.hid h
 have HRR:=Lib.hid hr
 have Vv:=Lib.hid hS
 have e1:min (m:Int) 65535=(m:Int):=by omega
 have h0:(0:Int)≤(m:Int):=by omega
 have h1:(m:Int)≤(c:Int):=by omega
 clear h hr hS
 go_enter Tryz.func86,Tryz.ntmps86
 go_wp2_with fail
 (with_reducible refine HS.out.mono ?_)
 rintro e w1 ⟨rfl,v1,hm1⟩
 have HM:=Lib.hid hm1
 have hr1:av S w1 a m (l.map bv):=HRR.out.kept hm1.2.1.size fun b hb hbw=>hm1.2.1.block b hbw fun hf=>by
  rcases hf with h4|h4
  ·exact(Vv.out b hb).1 h4
  ·exact(Vv.out b hb).2 h4
 have HRW:=Lib.hid (K8 hm1.1 a m c l hr1 (by rw[List.length_append];have:(iL (m:Int) 2).length=2:=rfl;omega) (by omega))
 clear hm1 hr1
 go_wp2_with fail
 (with_reducible refine HRW.out.mono ?_)
 rintro e w2 ⟨rfl,v2,hm2⟩
 go_wp2_with fail
 go_end0
 refine⟨rfl,v2,?_⟩
 have:=HM.out.trans hm2
 rw[List.append_assoc]at this
 exact this
theorem Ca (h:dx B w x v bs) (hl:bs.length≤100000000):Calls Tryz.prog 89 #[ptr x] w (zV w bs):=by
 obtain⟨a,c,rfl,hc⟩:=kJ h.own
 obtain⟨_,hr⟩:=av.tY h.own
 have HC:=Lib.hid (n_ a bs.length c bs w (by omega) hr)
 have c0:=h.cell
 clear h hr
 go_enter Tryz.func89,Tryz.ntmps89
 go_wp2_with fail
 (with_reducible refine HC.out.mono ?_)
 rintro e w1 ⟨a1,n1,c1,rfl,hn1,hr1,hb1⟩
 go_wp2_with fail
 go_ret
 exact⟨a1,n1,c1,rfl,hn1,hr1,hb1⟩
end
set_option maxHeartbeats 2000000 in
theorem DF (k:Int) (x:bF) (h1:Fa x) (hk:0≤k) (hk':k≤65535) (w:World):Calls Tryz.prog 134 #[jg k x] w fun e w'=>e= .returned (.bool true)∧Below w.heap.size w w':=by
 obtain⟨l0,l1⟩:=h1.links
 obtain⟨t0,t1⟩:=h1.aK
 have hb:=h1.size
 obtain⟨n,hn⟩:∃n,n=x.b.length:=⟨_,rfl⟩
 rw[←hn]at hb
 have d1:decide (k<0)=false:=by simpa using hk
 have d2:decide (65535<k)=false:=by simpa using hk'
 have d3:decide (x.links<0)=false:=by simpa using l0
 have d4:decide (65535<x.links)=false:=by simp;omega
 have d5:decide ((n:Int)≤4096)=true:=by simp;omega
 have d6:decide (x.aK≤1099511627776)=true:=by simpa using t1
 have d7:decide ((0:Int)≤(n:Int))=true:=by simp
 unfold jg
 rw[←hn]
 by_cases hk2:x.kind=2
 ·obtain⟨_,hcl,hbn,htl⟩:=h1.dir hk2
  have hn0:n=0:=by rw[hn,hbn];rfl
  subst hn0
  rw[hk2,hcl,htl]
  clear hn h1 hk2 hcl hbn htl d6
  go_enter Tryz.func134,Tryz.ntmps134
  go_wp2
  all_goals (first|(go_ret;exact⟨rfl,wall w _⟩)|((try simp only[Exit.inBlock,Exit.then]);refine bodyPost_ret (by rfl) rfl ?_;exact⟨rfl,wall w _⟩))
 ·have hk1:=h1.kind.resolve_right hk2
  rw[hk1]
  clear hn h1 hk2 hk1
  go_enter Tryz.func134,Tryz.ntmps134
  go_wp2
  all_goals (first|(go_ret;exact⟨rfl,wall w _⟩)|((try simp only[Exit.inBlock,Exit.then]);refine bodyPost_ret (by rfl) rfl ?_;exact⟨rfl,wall w _⟩))
def o_ (k:Int) (x:bF):List UInt8:=iL k 2++iL x.kind 1++iL x.links 2++iL x.b.length 2++iL x.aK 8++oO x.closed
theorem fu (n:Int):∀s,(iL n s).length=s
 |0=>rfl
 |s+1=>by unfold iL;rw[List.length_cons,fu n s]
theorem kL (k:Int) (x:bF):(o_ k x).length=16:=by
 unfold o_ oO
 simp only[List.length_append,fu]
set_option maxHeartbeats 4000000 in
theorem DI (k:Int) (x:bF) (h1:Fa x) (hk:0≤k) (hk':k≤65535) (w:World):Calls Tryz.prog 85 #[jg k x] w fun e w'=>∃a n c,e= .returned (.tuple #[.slice a n c, .int .i64 0])∧n≤c∧av (fun b=>w.heap.size≤b∧b<w'.heap.size) w' a n ((o_ k x).map bv)∧Below w.heap.size w w':=by
 have HR:=Lib.hid (fun w'=>DF k x h1 hk hk' w')
 obtain⟨l0,l1⟩:=h1.links
 obtain⟨t0,t1⟩:=h1.aK
 have hb:=h1.size
 have hkd:0≤x.kind∧x.kind≤2:=by rcases h1.kind with h|h<;>omega
 obtain⟨Y8,Y9⟩:=hkd
 unfold o_
 obtain⟨n,hn⟩:∃n:Nat,n=x.b.length:=⟨_,rfl⟩
 rw[←hn]at hb
 unfold jg at HR⊢
 rw[←hn]at HR⊢
 clear h1 hn
 go_enter Tryz.func85,Tryz.ntmps85
 go_wp2_with fail
 (with_reducible refine(HR.out _).mono ?_)
 rintro e w1 ⟨rfl,hb1⟩
 have hsa:(w.alloc (.cells #[.int .i64 k, .int .i64 x.kind, .int .i64 x.links, .int .i64 n, .int .u64 x.aK, .bool x.closed] 98)).heap.size=w.heap.size+1:=by simp
 have hs1:=hb1.size
 have HQ:Hid (∀w',Below w1.heap.size w1 w'→∀j,w'.cell? ⟨w.heap.size,j,none⟩=(#[.int .i64 k, .int .i64 x.kind, .int .i64 x.links, .int .i64 n, .int .u64 x.aK, .bool x.closed]:Array Value)[j]?):=fun w' hb j=>by
  rw[hb.cell (p:=⟨w.heap.size,j,none⟩) (by simp only;omega),hb1.cell (p:=⟨w.heap.size,j,none⟩) (by simp)]
  exact fH (MapKept.heap_alloc w _).1 j
 have HB1:=Lib.hid ((wall w (.cells #[.int .i64 k, .int .i64 x.kind, .int .i64 x.links, .int .i64 n, .int .u64 x.aK, .bool x.closed] 98)).trans (hb1.mono (by omega)))
 clear hb1 HR
 go_wp2_with fail
 (with_reducible refine(q9 w1).mono ?_)
 rintro e w2 ⟨rfl,hW2,hb2⟩
 have HW2:=Lib.hid hW2
 have HB2:=Lib.hid hb2
 clear hW2 hb2
 have q0:w2.cell? ⟨w.heap.size,0,none⟩=some (.int .i64 k):=HQ.out _ HB2.out 0
 have QB:=Lib.hid (kg HW2.out k (by omega) (by omega) (by simp only[List.length_append,List.length_nil,fu];omega))
 go_wp2_with fail
 (with_reducible refine QB.out.mono ?_)
 rintro e w3 ⟨rfl,v3,O8⟩
 have HW3:=Lib.hid O8.1
 have HB3:=Lib.hid (HB2.out.trans (O8.low HW2.out))
 clear q0 O8 QB HW2 HB2
 have q1:w3.cell? ⟨w.heap.size,1,none⟩=some (.int .i64 x.kind):=HQ.out _ HB3.out 1
 have lq:=Lib.hid (xu HW3.out x.kind (by omega) (by omega) (by simp only[List.length_append,List.length_nil,fu];omega))
 go_wp2_with fail
 (with_reducible refine lq.out.mono ?_)
 rintro e w4 ⟨rfl,v4,Jk⟩
 have Pm:=Lib.hid Jk.1
 have dX:=Lib.hid (HB3.out.trans (Jk.low HW3.out))
 clear q1 Jk lq HW3 HB3
 have q2:w4.cell? ⟨w.heap.size,2,none⟩=some (.int .i64 x.links):=HQ.out _ dX.out 2
 have HS2:=Lib.hid (kg Pm.out x.links (by omega) (by omega) (by simp only[List.length_append,List.length_nil,fu];omega))
 go_wp2_with fail
 (with_reducible refine HS2.out.mono ?_)
 rintro e w5 ⟨rfl,v5,K9⟩
 have TP:=Lib.hid K9.1
 have iR:=Lib.hid (dX.out.trans (K9.low Pm.out))
 clear q2 K9 HS2 Pm dX
 have q3:w5.cell? ⟨w.heap.size,3,none⟩=some (.int .i64 n):=HQ.out _ iR.out 3
 have Mh:=Lib.hid (kg TP.out (n:Int) (by omega) (by omega) (by simp only[List.length_append,List.length_nil,fu];omega))
 go_wp2_with fail
 (with_reducible refine Mh.out.mono ?_)
 rintro e w6 ⟨rfl,v6,Ox⟩
 have TQ:=Lib.hid Ox.1
 have oM:=Lib.hid (iR.out.trans (Ox.low TP.out))
 clear q3 Ox Mh TP iR
 have q4:w6.cell? ⟨w.heap.size,4,none⟩=some (.int .u64 x.aK):=HQ.out _ oM.out 4
 have J8:=Lib.hid (Ji TQ.out x.aK (by omega) (by omega) (by simp only[List.length_append,List.length_nil,fu];omega))
 go_wp2_with fail
 (with_reducible refine J8.out.mono ?_)
 rintro e w7 ⟨rfl,v7,Jl⟩
 have TR:=Lib.hid Jl.1
 have qO:=Lib.hid (oM.out.trans (Jl.low TQ.out))
 clear q4 Jl J8 TQ oM
 have q5:w7.cell? ⟨w.heap.size,5,none⟩=some (.bool x.closed):=HQ.out _ qO.out 5
 have Pj:=Lib.hid (Jj TR.out x.closed (by simp only[List.length_append,List.length_nil,fu];omega))
 go_wp2_with fail
 (with_reducible refine Pj.out.mono ?_)
 rintro e w8 ⟨rfl,v8,QC⟩
 have XH:=Lib.hid QC.1
 have vD:=Lib.hid (qO.out.trans (QC.low TR.out))
 clear q5 QC Pj TR qO
 have HD:=Lib.hid (Ca XH.out (by simp only[List.length_append,List.length_nil,fu,oO];omega))
 go_wp2_with fail
 (with_reducible refine HD.out.mono ?_)
 rintro e w9 ⟨a9,n9,c9,rfl,TS,QD,qP⟩
 have NU:=Lib.hid QD
 have zx:=Lib.hid (vD.out.trans (qP.mono vD.out.size))
 have mH:=vD.out.size
 have TT:=TS
 clear QD qP HD
 go_wp2_with fail
 go_ret2
 refine⟨a9,n9,c9,rfl,TT,?_,HB1.out.trans (zx.out.mono HB1.out.size)⟩
 have h9:=NU.out.mono (S':=fun b=>w.heap.size≤b∧b<w9.heap.size) fun b hb=>⟨by have:=HB1.out.size;omega,hb.2⟩
 simpa using h9
end Go.Proofs.YtohpcppeajijnaaGreat
namespace Go.Proofs
open Go.RowKit Go.Maps Go.Sort Go.Shelf
set_option maxHeartbeats 1000000 in
theorem Tryz.DJ (w:World):Calls Tryz.prog 87 #[.func (.func 138) #[] #[.pointer (some ⟨w.heap.size,0,none⟩)]] (w.alloc (.cells #[.map none] 107)) fun e w'=>e= .returned (.slice none 0 0)∧Below (w.alloc (.cells #[.map none] 107)).heap.size (w.alloc (.cells #[.map none] 107)) w':=by
 have hseq:SeqGives Fence.wide 2 Tryz.prog 138 #[.pointer (some ⟨w.heap.size,0,none⟩)] encStr (fun ss:List (List UInt8)=>ss=[]) 0 (w.alloc (.cells #[.map none] 107)):=
  AnyZ.keys_gives_nil (ρ:=Tryz.ug) {Tryz.Im with} Fence.wide _ trivial rfl w.heap.size _ (by simp) (by simp)
 have h:=callsIn_wide.1 (AnyZ.sorted_in Tryz.EA Fence.wide 5 trivial trivial trivial trivial rfl (by omega) (Tryz.Io _) (enters_of Tryz.func137 (by kernel_rfl) rfl) 138 #[.pointer (some ⟨w.heap.size,0,none⟩)] trivial (enters_of Tryz.func138 (by kernel_rfl) rfl) _ 0 (Nat.zero_le _) (by omega) _ hseq)
 refine h.mono ?_
 rintro e w' ⟨v,ss,rfl,rfl,hrow,hnil,hb⟩
 obtain rfl:v= .slice none 0 0:=hnil.2 rfl
 exact⟨rfl,hb⟩
end Go.Proofs
namespace Go.Proofs.YtohpcppeajijnaaGreat
open Go.ChangeShapes Go.WideShapes Go.ChangeAt Go.RowKit
set_option linter.unusedVariables false
set_option linter.unusedSimpArgs false
def K_ (w:World) (L:List Nm) (e:Ending) (w':World):Prop:=
 ∃a c,e= .returned (.slice a L.length c)∧L.length≤c∧aH (fun x=>w.heap.size≤x∧x<w'.heap.size) w' a L.length (L.map strOf)∧Below w.heap.size w w'
section
variable {g:Nat→Own} {D:Nat→Prop} {p mb:Nat} {ib nb:Int→Nat} {T:aF}
set_option maxHeartbeats 1000000 in
theorem sorted_at (k:Int) (x:bF) (w:World) (h:aJ g D w p mb ib nb T) (hT:dG T) (hx:aj k T=some x):
  Calls Tryz.prog 87 #[.func (.func 138) #[] #[.pointer (some ⟨w.heap.size,0,none⟩)]] (w.alloc (.cells #[fJ x (nb k)] 107)) (K_ (w.alloc (.cells #[fJ x (nb k)] 107)) (x.names.map (·.1))):=by
 have O1:=hT.each k x hx
 have rZ:=hT.few hx
 by_cases hk:x.kind=2
 ·have e2:fJ x (nb k)= .map (some (nb k)):=if_pos hk
  rw[e2]
  have hM:=(h.item k x hx).names hk
  have hsz:(bO x).length=x.names.length:=List.length_map _
  refine(Tryz.yS (nb k) (bO x).length (rP cK (bO x)) kP w hM (by rw[jM,hsz];unfold maxLen;omega) (by rw[jM,hsz];omega)).mono ?_
  rintro e w' ⟨v,ss,rfl,hp,hown,hnil,hB⟩
  rw[uM]at hp
  have hml:(bO x).map (·.1)=x.names.map (·.1):=by unfold bO;rw[List.map_map];rfl
  rw[hml]at hp
  rw[su O1.sorted hp]at hown
  have hlen:ss.length=(x.names.map (·.1)).length:=hp.length_eq
  have hgood:∀s∈(x.names.map (·.1)).map strOf,s.size≤maxLen:=by
   intro s hs
   obtain⟨l,hl,rfl⟩:=List.mem_map.1 hs
   obtain⟨e,he,rfl⟩:=List.mem_map.1 hl
   have:=nC _ (O1.good e he)
   rw[fF];unfold maxLen;omega
  obtain⟨a,c,rfl,hc⟩:=kJ hown
  obtain⟨_,hr⟩:=av.tY hown
  rw[hlen]at hr hc
  have hr2:av (fun x_1=>(w.alloc (.cells #[.map (some (nb k))] 107)).heap.size≤x_1∧x_1<w'.heap.size) w' a (x.names.map (·.1)).length (((x.names.map (·.1)).map strOf).map .string):=by
   rw[List.map_map]
   exact hr
  exact⟨a,c,by rw[hlen],hc,⟨hr2,hgood⟩,hB⟩
 ·have e2:fJ x (nb k)= .map none:=if_neg hk
  have hnil:x.names=[]:=O1.file (O1.kind.resolve_right hk)
  rw[e2,hnil]
  refine(Tryz.DJ w).mono ?_
  rintro e w' ⟨rfl,hB⟩
  exact⟨none,0,rfl,Nat.le_refl _,⟨av.nil _ _ _,by simp⟩,hB⟩
end
def uy (l:List UInt8):List UInt8:=iL l.length 2++l
def CO (e:Nm×Int):List UInt8:=uy e.1++iL e.2 2
def jV (k:Int) (x:bF):List UInt8:=uy (o_ k x)++uy x.b++iL x.names.length 2++x.names.flatMap CO
def iY (T:aF):List UInt8:=iL T.length 2++T.flatMap fun q=>jV q.1 q.2
theorem mR {n:Nm} (h:bZ n=true):n.length≤16:=by
 unfold bZ at h
 simp only[Bool.and_eq_true,decide_eq_true_eq]at h
 exact h.1.1.2
theorem Cb (l:List UInt8):(uy l).length=2+l.length:=by unfold uy;rw[List.length_append,fu]
theorem Ao:∀(l:List (Nm×Int)),(∀e∈l,e.1.length≤16)→(l.flatMap CO).length≤20*l.length
 |[],_=>by simp
 |e::r,h=>by
  have h1:=h e (by simp)
  have h2:=Ao r fun y hy=>h y (by simp[hy])
  simp only[List.flatMap_cons,List.length_append,List.length_cons,CO,Cb,fu]
  omega
theorem Jm {k:Int} {x:bF} (h:Fa x) (hf:x.names.length≤4096):(jV k x).length≤90000:=by
 have h1:=Ao x.names fun e he=>mR (h.good e he)
 have h2:=h.size
 unfold jV
 simp only[List.length_append,Cb,fu,kL]
 omega
theorem qH {T:aF} (hT:dG T):∀(l:aF),(∀q∈l,q∈T)→(l.flatMap fun q=>jV q.1 q.2).length≤90000*l.length
 |[],_=>by simp
 |q::r,h=>by
  have hq:=aY dB hT.sorted (h q (by simp))
  have h1:=Jm (k:=q.1) (hT.each _ _ hq) (hT.few hq)
  have h2:=qH hT r fun y hy=>h y (by simp[hy])
  simp only[List.flatMap_cons,List.length_append,List.length_cons]
  omega
end Go.Proofs.YtohpcppeajijnaaGreat
