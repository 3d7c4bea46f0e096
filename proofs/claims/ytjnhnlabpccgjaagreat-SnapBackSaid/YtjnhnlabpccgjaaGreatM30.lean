/- permafrostref4: Byte, Short: some bytes, and behind them these (rows of one's own). permafrostref13: Live. The reference's snapshots (permafrostref13), in memory, under a mark. permafrostref13: Forget. permafrostref2: turned words, plainly. permafrostref2.Sum, plainly: what is hashed in one go is what is hashed block by block. permafrostref2.Sum, plainly: the words, one behind the other; none is below nought. -/
import Derived.Test.YtjnhnlabpccgjaaGreatM13
import Derived.Test.YtjnhnlabpccgjaaGreatM16
import Derived.Test.YtjnhnlabpccgjaaGreatM29
import Derived.Test.YtjnhnlabpccgjaaGreatM22
import Derived.Test.YtjnhnlabpccgjaaGreatM25
import Derived.Test.YtjnhnlabpccgjaaGreatM28
import Derived.Test.YtjnhnlabpccgjaaGreatM24
import Derived.Test.YtjnhnlabpccgjaaGreatM21
import Derived.Laws.BitsAllLaws
namespace Go.Proofs.YtjnhnlabpccgjaaGreat
open Go.ChangeShapes Go.WideShapes Go.ChangeAt Go.RowKit
set_option linter.unusedVariables false
set_option linter.unusedSimpArgs false
theorem eU {w wa u:World} {own:Option Nat} (hg:wa.grownBy u own) (ho:∀b,own=some b→w.heap.size≤b) (ha:Below w.heap.size w wa):Below w.heap.size w u:=
 ⟨hg.os.trans ha.os,hg.tape.trans ha.tape,hg.output.trans ha.output,Nat.le_trans ha.size hg.size,fun b hb=>(hg.block b (Nat.lt_of_lt_of_le hb ha.size) (fun e=>by have:=ho b e.symm;omega)).trans (ha.block b hb)⟩
theorem sw (w:World):∀b,(Value.slice (some ⟨w.heap.size,0,none⟩) 0 0).ownBlock=some b→w.heap.size≤b:=by
 intro b hb
 simp[Value.ownBlock]at hb
 omega
theorem zY {w u:World} {o:Obj} {v:Value} {n:Nat} {xs:List Value} (h:u.ownsRow w.heap.size 5 1 v n xs) (ha:v.ownBlock=(Value.slice (some ⟨w.heap.size,0,none⟩) 0 0).ownBlock∨v.ownBlock=some (w.alloc o).heap.size):∀b,v.ownBlock=some b→w.heap.size≤b:=by
 intro b hb
 rcases ha with h1|h1
 ·exact sw w b (h1▸hb)
 ·rw[h1]at hb
  simp at hb
  omega
theorem sD {u:World} {B:Nat} {v:Value} {n:Nat} {xs:List Value} (h:u.ownsRow B 5 1 v n xs) (o:Obj):(u.alloc o).ownsRow B 5 1 v n xs:=
 dh h fun b _ hbw=>Below.heap_alloc u o b hbw
theorem Ic {w:World} {B:Nat} {e:TypeId} {v:Value} {n b:Nat} {xs:List Value} (h:w.ownsRow B e 1 v n xs) (hb:v.ownBlock=some b):B≤b:=by
 rcases h.2 with⟨h1,_⟩|⟨g,cap,cur,rfl,hg,_⟩
 ·subst h1
  simp[Value.ownBlock]at hb
 ·simp[Value.ownBlock]at hb
  omega
set_option maxHeartbeats 2000000 in
theorem tV {S:Nat→Prop} (a:Option Addr) (m c:Nat) (l:List UInt8) (n:Int) (w:World) (hr:ah S w a m (l.map bv)) (hm:m≤100000000) (hn0:0≤n) (hn:n≤1000000000):
  Calls Tryz.prog 116 #[.slice a m c, .int .i64 n] w (eO w (l++dR n 1)):=by
 obtain⟨i8,hi⟩:∃i,Tryz.prog.info? 5=some i∧i.zero=some (.int .u8 0)∧i.size=1∧i.bytes=1:=info_parts (by kernel_rfl)
 have HI:=Lib.hid hi
 have HR:=Lib.hid hr
 have hlm:l.length=m:=by simpa using hr.length
 clear hr hi
 go_enter Tryz.func116,Tryz.ntmps116
 have hbw:=lq hn0 0
 have e0:n/2^(8*((0:Nat):Int)).toNat=n:=by simp
 rw[e0]at hbw
 obtain⟨b0,hb0⟩:∃b0,b0=UInt8.ofNat ((n/2^(8*0)).toNat%256):=⟨_,rfl⟩
 rw[←hb0]at hbw
 have HB0:=Lib.hid hb0
 have Fb:(w.alloc (.cells #[] 5)).ownsRow w.heap.size 5 1 (.slice (some ⟨w.heap.size,0,none⟩) 0 0) 0 []:=World.ownsRow_lit w #[] 0 (Nat.le_refl _) (by decide) rfl
 have ZN:ah S (w.alloc (.cells #[] 5)) a m (l.map bv):=HR.out.below (wall w _) (Nat.le_refl _)
 have Sj:=Lib.hid Fb
 have Sk:=Lib.hid ZN
 have tH:=Lib.hid (wall w (.cells #[] 5))
 have OJ:(w.alloc (.cells #[] 5)).heap.size=w.heap.size+1:=by simp
 clear Fb ZN hb0
 go_wp2_with (at_builtin;go_loud (first|(refine aO rfl _ _ 23 rfl w.heap.size 5 i8 _ 1 Tryz.underlying23 HI.out.1 HI.out.2.1 HI.out.2.2.1 HI.out.2.2.2 rfl _ 0 [] rfl Sj.out a m c (l.map bv) rfl Sk.out (dH l) (by unfold maxLen;omega) (by omega) (by omega) ?_;intro A1 c1 u1 hown1 hg1 _ qO;simp only[Nat.zero_add,List.nil_append]at hown1 qO;have CK:=Lib.hid (eU hg1 (sw w) tH.out);have hs1:=CK.out.size;have Fe:=Lib.hid (gH (w:=u1) [bv b0] 5 (by unfold maxLen;simp));have T9:=Lib.hid (sD hown1 (.cells #[bv b0] 5));have AP:=Lib.hid (wall u1 (.cells #[bv b0] 5));have hzB:(u1.alloc (.cells #[.int .u8 b0.toNat] 5)).heap.size=u1.heap.size+1:=(by simp);have ZO:=Lib.hid (zY hown1 qO);clear hown1 hg1 qO;(try simp only[Nat.zero_add]))|(refine aO rfl _ _ 23 rfl w.heap.size 5 i8 _ 1 Tryz.underlying23 HI.out.1 HI.out.2.1 HI.out.2.2.1 HI.out.2.2.2 rfl _ m (l.map bv) rfl T9.out _ 1 1 [bv b0] rfl Fe.out (dH [b0]) (by unfold maxLen;omega) (by omega) (by omega) ?_;intro A2 c2 u2 hown2 hg2 _ Dk;have HG2:=Lib.hid (eU hg2 ZO.out (CK.out.trans (AP.out.mono CK.out.size)));have CO:=Lib.hid hown2;clear hown2 hg2 Dk)))
 go_ret
 have e1:dR n 1=[b0]:=by rw[HB0.out];rfl
 rw[e1]
 refine⟨A2,c2,?_,?_,HG2.out⟩
 ·rw[List.length_append,hlm];rfl
 ·rw[List.length_append,hlm,List.map_append];exact CO.out
set_option maxHeartbeats 2000000 in
theorem je {S:Nat→Prop} (a:Option Addr) (m c:Nat) (l:List UInt8) (n:Int) (w:World) (hr:ah S w a m (l.map bv)) (hm:m≤100000000) (hn0:0≤n) (hn:n≤1000000000):
  Calls Tryz.prog 52 #[.slice a m c, .int .i64 n] w (eO w (l++dR n 2)):=by
 obtain⟨i8,hi⟩:∃i,Tryz.prog.info? 5=some i∧i.zero=some (.int .u8 0)∧i.size=1∧i.bytes=1:=info_parts (by kernel_rfl)
 have HI:=Lib.hid hi
 have HR:=Lib.hid hr
 have hlm:l.length=m:=by simpa using hr.length
 clear hr hi
 go_enter Tryz.func52,Tryz.ntmps52
 have hbw:=lq hn0 0
 have e0:n/2^(8*((0:Nat):Int)).toNat=n:=by simp
 rw[e0]at hbw
 have hbx:=lq hn0 1
 obtain⟨b0,hb0⟩:∃b0,b0=UInt8.ofNat ((n/2^(8*0)).toNat%256):=⟨_,rfl⟩
 rw[←hb0]at hbw
 have HB0:=Lib.hid hb0
 obtain⟨b1,hb1⟩:∃b1,b1=UInt8.ofNat ((n/2^(8*1)).toNat%256):=⟨_,rfl⟩
 have hby:n/256%256=((UInt8.ofNat ((n/2^(8*1)).toNat%256)).toNat:Int):=by
  rw[←hbx]
  have e9:(2:Int)^(8*((1:Nat):Int)).toNat=256:=by decide
  rw[e9]
  simp[IntKind.wrap,IntKind.signed,IntKind.bits]
 rw[←hb1]at hby
 clear hbx
 have HB1:=Lib.hid hb1
 have Fb:(w.alloc (.cells #[] 5)).ownsRow w.heap.size 5 1 (.slice (some ⟨w.heap.size,0,none⟩) 0 0) 0 []:=World.ownsRow_lit w #[] 0 (Nat.le_refl _) (by decide) rfl
 have ZN:ah S (w.alloc (.cells #[] 5)) a m (l.map bv):=HR.out.below (wall w _) (Nat.le_refl _)
 have Sj:=Lib.hid Fb
 have Sk:=Lib.hid ZN
 have tH:=Lib.hid (wall w (.cells #[] 5))
 have OJ:(w.alloc (.cells #[] 5)).heap.size=w.heap.size+1:=by simp
 clear Fb ZN hb0 hb1
 go_wp2_with (at_builtin;go_loud (first|(refine aO rfl _ _ 23 rfl w.heap.size 5 i8 _ 1 Tryz.underlying23 HI.out.1 HI.out.2.1 HI.out.2.2.1 HI.out.2.2.2 rfl _ 0 [] rfl Sj.out a m c (l.map bv) rfl Sk.out (dH l) (by unfold maxLen;omega) (by omega) (by omega) ?_;intro A1 c1 u1 hown1 hg1 _ qO;simp only[Nat.zero_add,List.nil_append]at hown1 qO;have CK:=Lib.hid (eU hg1 (sw w) tH.out);have hs1:=CK.out.size;have Fe:=Lib.hid (gH (w:=u1) [bv b1,bv b0] 5 (by unfold maxLen;simp));have T9:=Lib.hid (sD hown1 (.cells #[bv b1,bv b0] 5));have AP:=Lib.hid (wall u1 (.cells #[bv b1,bv b0] 5));have hzB:(u1.alloc (.cells #[.int .u8 b1.toNat, .int .u8 b0.toNat] 5)).heap.size=u1.heap.size+1:=(by simp);have ZO:=Lib.hid (zY hown1 qO);clear hown1 hg1 qO;(try simp only[Nat.zero_add]))|(refine aO rfl _ _ 23 rfl w.heap.size 5 i8 _ 1 Tryz.underlying23 HI.out.1 HI.out.2.1 HI.out.2.2.1 HI.out.2.2.2 rfl _ m (l.map bv) rfl T9.out _ 2 2 [bv b1,bv b0] rfl Fe.out (dH [b1,b0]) (by unfold maxLen;omega) (by omega) (by omega) ?_;intro A2 c2 u2 hown2 hg2 _ Dk;have HG2:=Lib.hid (eU hg2 ZO.out (CK.out.trans (AP.out.mono CK.out.size)));have CO:=Lib.hid hown2;clear hown2 hg2 Dk)))
 go_ret
 have e1:dR n 2=[b1,b0]:=by rw[HB0.out,HB1.out];rfl
 rw[e1]
 refine⟨A2,c2,?_,?_,HG2.out⟩
 ·rw[List.length_append,hlm];rfl
 ·rw[List.length_append,hlm,List.map_append];exact CO.out
set_option maxHeartbeats 2000000 in
theorem rJ {S S':Nat→Prop} (a:Option Addr) (m c:Nat) (l:List UInt8) (a':Option Addr) (m' c':Nat) (l':List UInt8) (w:World) (hr:ah S w a m (l.map bv)) (hr':ah S' w a' m' (l'.map bv)) (hm:m≤100000000) (hm':m'≤65535):
  Calls Tryz.prog 53 #[.slice a m c, .slice a' m' c'] w (eO w (l++(dR m' 2++l'))):=by
 obtain⟨i8,hi⟩:∃i,Tryz.prog.info? 5=some i∧i.zero=some (.int .u8 0)∧i.size=1∧i.bytes=1:=info_parts (by kernel_rfl)
 have HI:=Lib.hid hi
 have HS:=Lib.hid (je a m c l (m':Int) w hr hm (by omega) (by omega))
 have HR:=Lib.hid hr'
 have hlm:l.length=m:=by simpa using hr.length
 have hlm':l'.length=m':=by simpa using hr'.length
 have hg:decide ((65535:Int)<(m':Int))=false:=by simp;omega
 have hg2:decide ((65535:Nat)<m')=false:=by simp;omega
 obtain⟨q,hq⟩:∃q,q=l++dR (m':Int) 2:=⟨_,rfl⟩
 have HQ:=Lib.hid hq
 have hql:q.length=m+2:=by rw[hq,List.length_append,hlm];rfl
 rw[←hq]at HS
 clear hr hi hr' hq
 go_enter Tryz.func53,Tryz.ntmps53
 go_wp2_with fail
 (with_reducible refine HS.out.mono ?_)
 rintro e w1 ⟨a1,c1,rfl,hown1,hb1⟩
 have rD:=Lib.hid hown1
 have HB1:=Lib.hid hb1
 have HR1:=Lib.hid (HR.out.below hb1 (Nat.le_refl _))
 have hs1:=hb1.size
 clear hown1 hb1
 obtain⟨N,hN⟩:∃N,N=q.length:=⟨_,rfl⟩
 have hN8:N≤100000002:=by omega
 have HQL:=Lib.hid hql
 clear hql
 rw[←hN]at rD⊢
 have HN:=Lib.hid hN
 clear hN
 have HLO:Hid (∀b,(Value.slice a1 N c1).ownBlock=some b→w.heap.size≤b):=fun b hb=>Ic rD.out hb
 go_wp2_with (at_builtin;go_loud (refine aO rfl _ _ 23 rfl w.heap.size 5 i8 _ 1 Tryz.underlying23 HI.out.1 HI.out.2.1 HI.out.2.2.1 HI.out.2.2.2 rfl _ N (q.map bv) rfl rD.out a' m' c' (l'.map bv) rfl HR1.out (dH l') (by unfold maxLen;omega) (by omega) (by omega) ?_;intro A2 c2 u2 hown2 ZP _ Dk;have HG2:=Lib.hid (eU ZP HLO.out HB1.out);have CO:=Lib.hid hown2;clear hown2 ZP Dk))
 go_ret
 have e1:l++(dR (m':Int) 2++l')=q++l':=by rw[HQ.out,List.append_assoc]
 have e2:(q++l').length=N+m':=by rw[List.length_append,hlm',←HN.out]
 rw[e1]
 refine⟨A2,c2,?_,?_,HG2.out⟩
 ·rw[e2];rfl
 ·rw[e2,List.map_append];exact CO.out
theorem Ie {S:Nat→Prop} (a:Option Addr) (m c:Nat) (l:List UInt8) (f:Bool) (w:World) (hr:ah S w a m (l.map bv)) (hm:m≤100000000):
  Calls Tryz.prog 117 #[.slice a m c, .bool f] w (eO w (l++nu f)):=by
 have H1:=Lib.hid (tV a m c l 1 w hr hm (by omega) (by omega))
 have H0:=Lib.hid (tV a m c l 0 w hr hm (by omega) (by omega))
 clear hr
 cases f with
 |true=>
  go_enter Tryz.func117,Tryz.ntmps117
  go_wp2_with fail
  (with_reducible refine H1.out.mono ?_)
  rintro e w1 ⟨a1,c1,rfl,hown1,hb1⟩
  go_wp2_with fail
  go_ret
  exact⟨a1,c1,(by rw[List.length_append];rfl),hown1,hb1⟩
 |false=>
  go_enter Tryz.func117,Tryz.ntmps117
  go_wp2_with fail
  (with_reducible refine H0.out.mono ?_)
  rintro e w1 ⟨a1,c1,rfl,hown1,hb1⟩
  go_wp2_with fail
  go_ret
  exact⟨a1,c1,(by rw[List.length_append];rfl),hown1,hb1⟩
set_option maxHeartbeats 4000000 in
theorem Ig {S:Nat→Prop} (a:Option Addr) (m c:Nat) (l:List UInt8) (n:Int) (w:World) (hr:ah S w a m (l.map bv)) (hm:m≤100000000) (hn0:0≤n) (hn:n≤18446744073709551615):
  Calls Tryz.prog 118 #[.slice a m c, .int .u64 n] w (eO w (l++dR n 8)):=by
 obtain⟨i8,hi⟩:∃i,Tryz.prog.info? 5=some i∧i.zero=some (.int .u8 0)∧i.size=1∧i.bytes=1:=info_parts (by kernel_rfl)
 have HI:=Lib.hid hi
 have hlm:l.length=m:=by simpa using hr.length
 have HLM:=Lib.hid hlm
 have Sj:=Lib.hid (show(w.alloc (.cells #[] 5)).ownsRow w.heap.size 5 1 (.slice (some ⟨w.heap.size,0,none⟩) 0 0) 0 []from World.ownsRow_lit w #[] 0 (Nat.le_refl _) (by decide) rfl)
 have Sk:Hid (ah S (w.alloc (.cells #[] 5)) a m (l.map bv)):=hr.below (wall w _) (Nat.le_refl _)
 have tH:=Lib.hid (wall w (.cells #[] 5))
 have OJ:(w.alloc (.cells #[] 5)).heap.size=w.heap.size+1:=by simp
 clear hr hi hlm
 go_enter Tryz.func118,Tryz.ntmps118
 go_wp2_with (at_builtin;go_loud (refine aO rfl _ _ 23 rfl w.heap.size 5 i8 _ 1 Tryz.underlying23 HI.out.1 HI.out.2.1 HI.out.2.2.1 HI.out.2.2.2 rfl _ 0 [] rfl Sj.out a m c (l.map bv) rfl Sk.out (dH l) (by unfold maxLen;omega) (by omega) (by omega) ?_;intro A1 c1 u1 hown1 hg1 _ qO;simp only[Nat.zero_add,List.nil_append]at hown1 qO;have CK:=Lib.hid (eU hg1 (sw w) tH.out);have rD:=Lib.hid hown1;clear hown1 hg1 qO;(try simp only[Nat.zero_add])))
 go_loopw [5,6] (fun ov iv wr=>∃(k:Nat) (dn:List UInt8) (a1:Option Addr) (c1:Nat),k≤8∧iv= .int .i64 (8*(k:Int)-8)∧dn++dR n k=dR n 8∧dn.length+k=8∧ov= .slice a1 (m+dn.length) c1∧wr.ownsRow w.heap.size 5 1 (.slice a1 (m+dn.length) c1) (m+dn.length) ((l++dn).map bv)∧Below w.heap.size w wr) (fun _ iv _=>((intOf iv)+8).toNat)
 case atStart=>exact⟨8,[],A1,c1,by omega,rfl,rfl,rfl,rfl,by simpa using rD.out,CK.out⟩
 case round=>
  obtain⟨k,dn,a1,c1,hk,rfl,hdn,hdl,rfl,hown,hB⟩:=hrel
  have vJ:=Lib.hid hdn
  have HO:=Lib.hid hown
  have HB:=Lib.hid hB
  have ZQ:=hB.size
  clear hdn hown hB
  cases k with
  |zero=>
   have e0:8*((0:Nat):Int)-8= -8:=by omega
   rw[e0]
   have HD8:Hid (dn.length=8):=Lib.hid (by omega)
   clear hdl
   go_wp2_with fail
   go_ret
   have h9:dn++[]=dR n 8:=vJ.out
   rw[List.append_nil]at h9
   refine⟨a1,c1,?_,?_,HB.out⟩
   ·rw[←h9,List.length_append,HLM.out];rfl
   ·rw[←h9,List.length_append,HLM.out];exact HO.out
  |succ k=>
   have hk0:(0:Int)≤k:=by omega
   have e1:8*((k+1:Nat):Int)-8=8*(k:Int):=by omega
   rw[e1]
   have hge:decide ((0:Int)≤8*(k:Int))=true:=by simp;omega
   have hbw:n/2^(8*k)%256=((UInt8.ofNat ((n/2^(8*k)).toNat%256)).toNat:Int):=by
    rw[←lq hn0 k,show(8*(k:Int)).toNat=8*k by omega]
    simp[IntKind.wrap,IntKind.signed,IntKind.bits]
   obtain⟨b0,hb0⟩:∃b0,b0=UInt8.ofNat ((n/2^(8*k)).toNat%256):=⟨_,rfl⟩
   rw[←hb0]at hbw
   have HB0:=Lib.hid hb0
   obtain⟨N,hN⟩:∃N,N=m+dn.length:=⟨_,rfl⟩
   have hN2:N≤100000008:=by omega
   rw[←hN]at HO⊢
   have pJ:=Lib.hid hN
   have Jg:=Lib.hid hdl
   have uE:Below wr.heap.size wr (wr.alloc (.cells #[bv b0] 5)):=wall wr _
   have HOW:=Lib.hid (sD HO.out (.cells #[bv b0] 5))
   have HLO:Hid (∀b,(Value.slice a1 N c1).ownBlock=some b→w.heap.size≤b):=fun b hb=>Ic HO.out hb
   have AP:=Lib.hid (HB.out.trans (uE.mono ZQ))
   clear hb0 hN hdl uE
   go_wp2_with (at_builtin;go_loud (refine aO rfl _ _ 23 rfl w.heap.size 5 i8 _ 1 Tryz.underlying23 HI.out.1 HI.out.2.1 HI.out.2.2.1 HI.out.2.2.2 rfl _ N ((l++dn).map bv) rfl HOW.out (some ⟨wr.heap.size,0,none⟩) 1 1 [bv b0] rfl (xV (bv b0) 5) (by simp[bv,Value.oneCell']) (by unfold maxLen;omega) (by omega) (by simp;omega) ?_;intro A2 c2 u2 hown2 hg2 _ Dk;have HG2:=Lib.hid (eU hg2 HLO.out AP.out);have CO:=Lib.hid hown2;clear hown2 hg2 Dk))
   go_roundw
   case rel=>
    refine⟨k,dn++[b0],A2,c2,by omega,by go_num,?_,by have:=Jg.out;simp;omega,?_,?_,HG2.out⟩
    ·rw[List.append_assoc,←vJ.out,HB0.out]
     rfl
    ·rw[List.length_append,←Nat.add_assoc,←pJ.out];rfl
    ·rw[List.length_append,←Nat.add_assoc,←pJ.out,←List.append_assoc,List.map_append]
     exact CO.out
   case measure=>simp[intOf];omega
theorem Sl (w:World) (o1:Obj) (vs:List Value) (t:TypeId) (hm:vs.length≤maxLen):ah (fun x=>x=w.heap.size+1) ((w.alloc o1).alloc (.cells vs.toArray t)) (some ⟨w.heap.size+1,0,none⟩) vs.length vs:=
 kS (show((w.alloc o1).alloc (.cells vs.toArray t)).heap[w.heap.size+1]? =some (.cells vs.toArray t (0,0))from(gV w o1 _).2) hm
section
variable {W w:World} {o:Mark} {i r:Nat} {T:aA}
def ZR (w:World) (T:aA) (now:Int) (e:Ending) (w':World):Prop:=∃a c,e= .returned (.slice a (fP T now).length c)∧Below w.heap.size w w'
set_option maxRecDepth 100000 in
set_option maxHeartbeats 4000000 in
theorem Lu (h:iY o i w r T) (hT:eH T) (now:Int):Calls Tryz.prog 94 #[ptr r, .int .u64 now] w (ZR w T now):=by
 obtain⟨iI,hI⟩:∃i,Tryz.prog.info? 3=some i∧i.zero=some (.int .i64 0)∧i.size=1∧i.bytes=8:=info_parts Da
 have HI:=Lib.hid hI
 have HR:=Lib.hid h
 have Yp:=hT.len
 have hlow:r<w.heap.size:=by
  obtain⟨F,hR,-,-⟩:=h
  exact hR.low r hR.own
 obtain⟨tl,htl⟩:∃tl,tl=T.length:=⟨_,rfl⟩
 rw[←htl]at Yp
 have Bb:=Lib.hid htl
 clear htl h hT hI
 go_enter Tryz.func94,Tryz.ntmps94
 go_wp2_with fail
 go_loopw [5,6] (fun v iv wr=>∃(k n:Nat) (a:Option Addr) (c:Nat),iv= .int .i64 k∧k≤tl∧n=(fP (T.take k) now).length∧n≤k∧v= .slice a n c∧wr.ownsRow w.heap.size 3 1 v n ((fP (T.take k) now).map (Value.int .i64))∧Below w.heap.size w wr) (fun _ iv _=>tl-(intOf iv).toNat)
 case atStart=>exact⟨0,0,none,0,rfl,Nat.zero_le _,rfl,Nat.le_refl _,rfl,⟨rfl, .inl ⟨rfl,rfl⟩⟩,Below.refl _ _⟩
 case round=>
  obtain⟨k,n,a,c,rfl,hk,hn,hnk,rfl,hown,hb⟩:=hrel
  have HOWN:=Lib.hid hown
  have HB:=Lib.hid hb
  have HN:=Lib.hid hn
  have HR1:=Lib.hid (HR.out.grow hb)
  obtain⟨a0,p0,hc0⟩:=HR1.out.nodes
  rw[←Bb.out]at hc0
  clear hown hn
  by_cases hlt:k<tl
  ·have hd:decide (k<tl)=true:=by simpa using hlt
   obtain⟨y,hy⟩:∃y,T[k]? =some y:=⟨T[k]'(by rw[←Bb.out];exact hlt),List.getElem?_eq_getElem _⟩
   obtain⟨b,off,cc,hc0',d0,d1,d2,d3,d4,d5⟩:=HR1.out.node hy
   rw[←Bb.out,hc0]at hc0'
   simp only[Option.some.injEq,Value.slice.injEq,true_and]at hc0'
   obtain⟨rfl,rfl⟩:=hc0'
   have i0:(0:Int)≤(k:Int):=by omega
   have i1:(k:Int)<(tl:Int):=by omega
   have DV:=Lib.hid (zx (now:=now) hy)
   obtain⟨id,kind,links,size,aP,closed,he⟩:∃id kind links size aP closed,y.1=id∧y.2.kind=kind∧y.2.links=links∧(y.2.b.length:Int)=size∧y.2.aP=aP∧y.2.closed=closed:=⟨_,_,_,_,_,_,rfl,rfl,rfl,rfl,rfl,rfl⟩
   obtain⟨e1,e2,e3,e4,e5,e6⟩:=he
   rw[e1]at d0
   rw[e2]at d1
   rw[e3]at d2
   rw[e4]at d3
   rw[e5]at d4
   rw[e6]at d5
   have Wv:Hid (pV y.2 now=(decide (kind=1)&&closed&&decide (now<aP))):=by
    show pV y.2 now=_
    unfold pV
    rw[e2,e5,e6]
   have XA:=Lib.hid e1
   clear hy e1 e2 e3 e4 e5 e6
   by_cases hlv:(decide (kind=1)&&closed&&decide (now<aP))=true
   ·simp only[Bool.and_eq_true,decide_eq_true_eq]at hlv
    obtain⟨⟨rfl,rfl⟩,Sm⟩:=hlv
    have hnd:decide (now<aP)=true:=by simpa using Sm
    have xJ:Hid (fP (T.take (k+1)) now=fP (T.take k) now++[id]):=by
     show fP (T.take (k+1)) now=_
     rw[DV.out,Wv.out,XA.out]
     simp[Sm]
    clear DV Wv
    go_wp2_with (at_builtin;refine dw rfl _ _ 41 rfl w.heap.size 3 iI _ 1 8 Tryz.underlying41 HI.out.1 HI.out.2.1 HI.out.2.2.1 HI.out.2.2.2 rfl (by omega) (.slice a n c) n ((fP (T.take k) now).map (Value.int .i64)) rfl (dh (dh HOWN.out fun b _ h=>(wall wr _).block b h) fun b _ h=>(wall _ _).block b h) _ 1 1 [.int .i64 id] rfl (show ah _ _ _ (1*1) _ from Sl wr _ [.int .i64 id] 3 (by simp[maxLen])) (by simp[Value.oneCell']) (by unfold maxLen;omega) (by omega) (by have:=HB.out.size;simp;omega) ?_;intro A1 c1 w1 hown1 hb1;have rD:=Lib.hid hown1;have BJ:=Lib.hid (((HB.out.trans ((wall wr _).mono HB.out.size)).trans ((wall _ _).mono (by have:=HB.out.size;simp;omega))).trans hb1);clear hown1 hb1)
    go_roundw
    case rel=>
     refine⟨k+1,n+1,A1,c1,by go_num,by omega,?_,by omega,rfl,?_,BJ.out⟩
     ·rw[xJ.out,List.length_append,←HN.out]
      rfl
     ·rw[xJ.out,List.map_append]
      exact rD.out
    case measure=>simp[intOf];omega
   ·have hlf:(decide (kind=1)&&closed&&decide (now<aP))=false:=by simpa using hlv
    have xJ:Hid (fP (T.take (k+1)) now=fP (T.take k) now):=by
     show fP (T.take (k+1)) now=_
     rw[DV.out,Wv.out,hlf]
     simp
    clear DV Wv hlv
    have hfin:∀wx:World,Below w.heap.size w wx→wx.ownsRow w.heap.size 3 1 (.slice a n c) n ((fP (T.take k) now).map (Value.int .i64))→(∃(k' n':Nat) (a':Option Addr) (c':Nat),Value.int .i64 ((k:Int)+1)= .int .i64 k'∧k'≤tl∧n'=(fP (T.take k') now).length∧n'≤k'∧Value.slice a n c= .slice a' n' c'∧wx.ownsRow w.heap.size 3 1 (.slice a n c) n' ((fP (T.take k') now).map (Value.int .i64))∧Below w.heap.size w wx):=fun wx h1 h2=>⟨k+1,n,a,c,by go_num,by omega,by rw[xJ.out];exact HN.out,by omega,rfl,by rw[xJ.out];exact h2,h1⟩
    have iX:=Lib.hid hfin
    clear hfin
    by_cases hk1:kind=1
    ·subst hk1
     cases closed with
     |true=>
      have Sm:decide (now<aP)=false:=by simpa using hlf
      have hnow2:¬now<aP:=by simpa using Sm
      clear hlf
      go_wp2_with fail
      go_roundw
      case rel=>exact iX.out _ (HB.out.trans ((wall wr _).mono HB.out.size)) (dh HOWN.out fun b _ h=>(wall wr _).block b h)
      case measure=>simp[intOf];omega
     |false=>
      clear hlf
      go_wp2_with fail
      go_roundw
      case rel=>exact iX.out _ (HB.out.trans ((wall wr _).mono HB.out.size)) (dh HOWN.out fun b _ h=>(wall wr _).block b h)
      case measure=>simp[intOf];omega
    ·have hkd:(kind==1)=false:=by simpa using hk1
     have hkd2:decide (kind=1)=false:=by simpa using hk1
     clear hlf
     go_wp2_with fail
     go_roundw
     case rel=>exact iX.out _ (HB.out.trans ((wall wr _).mono HB.out.size)) (dh HOWN.out fun b _ h=>(wall wr _).block b h)
     case measure=>simp[intOf];omega
  ·have hd:decide (k<tl)=false:=by simp;omega
   have HE:Hid (n=(fP T now).length):=by
    show n=_
    rw[HN.out,List.take_of_length_le (by rw[←Bb.out];omega)]
   clear hlt
   go_wp2_with fail
   go_ret
   have h9:=HE.out
   exact⟨a,c,by rw[←h9];rfl,HB.out⟩
end
def nL (o:Mark) (w:World) (vs:List Value) (x:dX):Prop:=
 ∃a c q,vs=[.int .i64 x.id, .slice a x.hash.length c,ptr q]∧x.hash.length≤c∧ah (Free o w) w a x.hash.length (x.hash.map bv)∧iY o 0 w q x.t∧eH x.t
def dF (o:Mark) (w:World):List Value→List dX→Prop
 |vs,[]=>vs=[]
 |vs,x::r=>∃v1 v2,vs=v1++v2∧nL o w v1 x∧dF o w v2 r
structure gW (o:Mark) (i:Nat) (w:World) (s:Nat) (S:jc):Prop where
 at_:∃la lc a c vals,w.heap[s]? =some (.cells #[.int .i64 S.next, .slice la S.last.length lc, .slice a S.l.length c] 129 (0,0))∧o s=i∧s<w.heap.size∧
  S.l.length≤c∧ah (Free o w) w a (S.l.length*3) vals∧dF o w vals S.l∧
  S.last.length≤lc∧ah (Free o w) w la S.last.length (S.last.map bv)
theorem ah.Lv {o:Mark} {w w':World} {a:Option Addr} {n:Nat} {vs:List Value} (h:ah (Free o w) w a n vs) (hb:Below w.heap.size w w'):ah (Free o w') w' a n vs:=
 h.move hb.size fun b hb' hbw=>⟨⟨hb'.1,Nat.lt_of_lt_of_le hb'.2 hb.size⟩,hb.block b hbw⟩
theorem nL.step {o o':Mark} {I:Nat→Prop} {w w':World} {vs:List Value} {x:dX} (h:nL o w vs x) (hi:¬I 0) (hs:Step o I w o' w'):nL o' w' vs x:=by
 obtain⟨a,c,q,h1,h2,h3,h4,h5⟩:=h
 exact⟨a,c,q,h1,h2,h3.free hi hs,h4.step hi hi hs,h5⟩
theorem dF.step {o o':Mark} {I:Nat→Prop} {w w':World} (hi:¬I 0) (hs:Step o I w o' w'):∀{vs:List Value} {l:List dX},dF o w vs l→dF o' w' vs l
 |_,[],h=>h
 |_,x::r,⟨v1,v2,h1,h2,h3⟩=>⟨v1,v2,h1,h2.step hi hs,dF.step hi hs h3⟩
theorem nL.grow {o:Mark} {w w':World} {vs:List Value} {x:dX} (h:nL o w vs x) (hb:Below w.heap.size w w'):nL o w' vs x:=by
 obtain⟨a,c,q,h1,h2,h3,h4,h5⟩:=h
 exact⟨a,c,q,h1,h2,h3.Lv hb,h4.grow hb,h5⟩
theorem dF.grow {o:Mark} {w w':World} (hb:Below w.heap.size w w'):∀{vs:List Value} {l:List dX},dF o w vs l→dF o w' vs l
 |_,[],h=>h
 |_,x::r,⟨v1,v2,h1,h2,h3⟩=>⟨v1,v2,h1,h2.grow hb,dF.grow hb h3⟩
theorem nL.len {o:Mark} {w:World} {vs:List Value} {x:dX} (h:nL o w vs x):vs.length=3:=by
 obtain⟨a,c,q,h1,_⟩:=h
 rw[h1];rfl
theorem dF.len {o:Mark} {w:World}:∀{vs:List Value} {l:List dX},dF o w vs l→vs.length=l.length*3
 |_,[],h=>by have h1:_=[]:=h;rw[h1];rfl
 |_,x::r,⟨v1,v2,h1,h2,h3⟩=>by
  rw[h1,List.length_append,h2.len,h3.len,List.length_cons]
  omega
theorem dF.append {o:Mark} {w:World}:∀{vs us:List Value} {l m:List dX},dF o w vs l→dF o w us m→dF o w (vs++us) (l++m)
 |_,_,[],_,h,k=>by have h1:_=[]:=h;rw[h1];exact k
 |_,_,x::r,_,⟨v1,v2,h1,h2,h3⟩,k=>⟨v1,v2++_,by rw[h1,List.append_assoc],h2,h3.append k⟩
theorem dF.at_ {o:Mark} {w:World}:∀{vs:List Value} {l:List dX} {k:Nat} {x:dX},dF o w vs l→l[k]? =some x→∃a c q,vs[k*3]? =some (.int .i64 x.id)∧vs[k*3+1]? =some (.slice a x.hash.length c)∧vs[k*3+2]? =some (ptr q)∧x.hash.length≤c∧ah (Free o w) w a x.hash.length (x.hash.map bv)∧iY o 0 w q x.t∧eH x.t
 |_,[],k,x,_,hx=>by simp at hx
 |_,y::r,0,x,⟨v1,v2,h1,h2,h3⟩,hx=>by
  have hyx:y=x:=Option.some.inj hx
  subst hyx
  obtain⟨a,c,q,e1,e2,e3,e4,e5⟩:=h2
  subst e1 h1
  exact⟨a,c,q,rfl,rfl,rfl,e2,e3,e4,e5⟩
 |_,y::r,k+1,x,⟨v1,v2,h1,h2,h3⟩,hx=>by
  obtain⟨a,c,q,e1,e2,e3,e4⟩:=dF.at_ h3 (k:=k) (x:=x) (by simpa using hx)
  have hl:=h2.len
  subst h1
  refine⟨a,c,q,?_,?_,?_,e4⟩
  ·rw[List.getElem?_append_right (by omega),←e1];congr 1;omega
  ·rw[List.getElem?_append_right (by omega),←e2];congr 1;omega
  ·rw[List.getElem?_append_right (by omega),←e3];congr 1;omega
theorem dF.take {o:Mark} {w:World}:∀{vs:List Value} {l:List dX} (k:Nat),dF o w vs l→dF o w (vs.take (k*3)) (l.take k)
 |_,[],k,h=>by have h1:_=[]:=h;rw[h1];simp;exact rfl
 |_,y::r,0,_=>by simp;exact rfl
 |_,y::r,k+1,⟨v1,v2,h1,h2,h3⟩=>by
  subst h1
  have hl:=h2.len
  refine⟨v1,v2.take (k*3),?_,h2,h3.take k⟩
  rw[List.take_append,List.take_of_length_le (by omega)]
  congr 2
  omega
theorem dF.drop {o:Mark} {w:World}:∀{vs:List Value} {l:List dX} (k:Nat),dF o w vs l→dF o w (vs.drop (k*3)) (l.drop k)
 |_,[],k,h=>by have h1:_=[]:=h;rw[h1];simp;exact rfl
 |_,y::r,0,h=>by simpa using h
 |_,y::r,k+1,⟨v1,v2,h1,h2,h3⟩=>by
  subst h1
  have hl:=h2.len
  have h4:=h3.drop k
  rw[List.drop_append,List.drop_eq_nil_of_le (by omega)]
  have e:(k+1)*3-v1.length=k*3:=by omega
  rw[e]
  exact h4
theorem nL.one {o:Mark} {w:World} {vs:List Value} {x:dX} (h:nL o w vs x):∀u∈vs,u.oneCell'=true:=by
 obtain⟨a,c,q,h1,_⟩:=h
 intro u hu
 rw[h1]at hu
 simp only[List.mem_cons,List.not_mem_nil,or_false]at hu
 rcases hu with rfl|rfl|rfl<;>rfl
theorem dF.one {o:Mark} {w:World}:∀{vs:List Value} {l:List dX},dF o w vs l→∀u∈vs,u.oneCell'=true
 |_,[],h=>by have h1:_=[]:=h;rw[h1];intro u hu;cases hu
 |_,x::r,⟨v1,v2,h1,h2,h3⟩=>by
  intro u hu
  rw[h1]at hu
  rcases List.mem_append.1 hu with hu|hu
  ·exact h2.one u hu
  ·exact dF.one h3 u hu
theorem gW.step {o o':Mark} {I:Nat→Prop} {j:Nat} {w w':World} {s:Nat} {S:jc} (h:gW o j w s S) (hi:¬I 0) (hj:¬I j) (hs:Step o I w o' w'):gW o' j w' s S:=by
 obtain⟨la,lc,a,c,vals,h1,h2,h3,h4,h5,h6,h7,h8⟩:=h.at_
 exact⟨la,lc,a,c,vals,(hs.block h3 (by rw[h2];exact hj)).trans h1,(hs.old s h3).trans h2,Nat.lt_of_lt_of_le h3 hs.keep.size,h4,h5.free hi hs,h6.step hi hs,h7,h8.free hi hs⟩
section
variable {W w:World} {o:Mark} {i s:Nat} {S:jc}
theorem gW.grow (h:gW o i w s S) {w':World} (hM:Marks W o w) (hb:Below w.heap.size w w'):gW o i w' s S:=
 h.step (I:=fun _=>False) (fun h=>h) (fun h=>h) (Step.grow hM hb)
theorem gW.lt (h:gW o i w s S):s<w.heap.size:=by
 obtain⟨la,lc,a,c,vals,h1,h2,h3,_⟩:=h.at_
 exact h3
theorem Fg {w8:World} (hM:Marks W o w) (hos:o s=i) (hK:Keeps (fun b=>b=s) w w8):Step o (fun k=>k=i) w o w8:=
 ⟨fun _ _=>rfl,fun b hb hn=>by have:=(hM.new b hn).2;omega,hK.mono fun x _ hx=>by
  have hx':x=s:=hx
  rw[hx']
  exact hos⟩
theorem Fh {w8:World} (hM:Marks W o w) {a:Option Addr} {n:Nat} {vs:List Value} {B:Nat} (hB:w.heap.size≤B) (h:ah (fun x=>B≤x∧x<w8.heap.size) w8 a n vs):ah (Free o w8) w8 a n vs:=
 h.mono fun b hb=>⟨Decidable.byContradiction fun h0=>by have:=(hM.new b h0).2;omega,hb.2⟩
theorem Sn (hM:Marks W o w) (j:Nat):Calls Tryz.prog 24 #[] w fun e w'=>∃s o',e= .returned (ptr s)∧Step o (fun k=>k=j) w o' w'∧gW o' j w' s kN∧Below w.heap.size w w':=by
 have HM:=Lib.hid hM
 clear hM
 go_enter Tryz.func24,Tryz.ntmps24
 go_wp2
 go_ret
 obtain⟨o',hs,h1,h2⟩:=jd HM.out j (fun b=>b=w.heap.size) (w':=w.alloc (.cells #[.int .i64 1, .slice none 0 0, .slice none 0 0] 129)) (fun b hb=>by subst hb;simp) (wall w _)
 refine⟨w.heap.size,o',rfl,hs,⟨none,0,none,0,[],(MapKept.heap_alloc w _).1,h1 _ rfl,by simp,Nat.le_refl _,ah.nil _ _ _,rfl,Nat.le_refl _,ah.nil _ _ _⟩,wall w _⟩
end
theorem Ih {T:aA} {now:Int}:vV T now=decide (0<(fP T now).length):=rfl
theorem zZ {S S1 S2:jc} {id now e1 e2:Int} (h1:jJ S id now e1 S1) (h2:jJ S id now e2 S2):e1=e2∧S1=S2:=by
 have first:∀{k k':Nat} {x x':dX},S.l[k]? =some x→x.id=id→(∀y∈S.l.take k',y.id≠id)→S.l[k']? =some x'→¬k<k':=fun{k k' x x'} hx hid hno hx' hlt=>by
  refine hno x ?_ hid
  have hk:=(List.getElem?_eq_some_iff.1 hx)
  rw[List.mem_iff_getElem?]
  exact⟨k,by rw[List.getElem?_take,if_pos hlt];exact hx⟩
 rcases h1 with⟨rfl,rfl,hn⟩|⟨k,x,hx,hid,hno,h1⟩
 ·rcases h2 with⟨rfl,rfl,_⟩|⟨k',x',hx',Ww,_⟩
  ·exact⟨rfl,rfl⟩
  ·exact absurd Ww (hn x' (List.mem_of_getElem? hx'))
 ·rcases h2 with⟨rfl,rfl,hn⟩|⟨k',x',hx',Ww,hno',h2⟩
  ·exact absurd hid (hn x (List.mem_of_getElem? hx))
  ·have hkk:k=k':=by
    have a1:=first hx hid hno' hx'
    have a2:=first hx' Ww hno hx
    omega
   subst hkk
   rw[hx]at hx'
   obtain rfl:=Option.some.inj hx'
   rcases h1 with⟨b1,rfl,rfl⟩|⟨b1,rfl,rfl⟩<;>rcases h2 with⟨b2,rfl,rfl⟩|⟨b2,rfl,rfl⟩
   ·exact⟨rfl,rfl⟩
   ·rw[b1]at b2;cases b2
   ·rw[b1]at b2;cases b2
   ·exact⟨rfl,rfl⟩
section
variable {W w:World} {o:Mark} {i s:Nat} {S:jc}
set_option maxRecDepth 100000 in
set_option maxHeartbeats 8000000 in
theorem Fj (hS:gW o i w s S) (hM:Marks W o w) (hi:i≠0) (KM:S.l.length≤8) (id now:Int):
  Calls Tryz.prog 38 #[ptr s, .int .i64 id, .int .u64 now] w fun e w'=>∃er S',e= .returned (.int .i64 er)∧jJ S id now er S'∧Step o (fun k=>k=i) w o w'∧gW o i w' s S':=by
 obtain⟨iO,ZT⟩:∃j,Tryz.prog.info? 149=some j∧j.zero=some (.agg #[.int .i64 0, .slice none 0 0, .pointer none])∧j.size=3∧j.bytes=40:=info_parts (by kernel_rfl)
 have sG:=Lib.hid ZT
 have HS:=Lib.hid hS
 have HM:=Lib.hid hM
 obtain⟨la,lc,a,c,vals,h1,h2,h3,h4,h5,h6,h7,h8⟩:=hS.at_
 have HH:=Lib.hid h1
 have DX:=Lib.hid h6
 have Vw:=Lib.hid h8
 have RL:=Lib.hid h7
 have RN:=Lib.hid h2
 obtain⟨n,hn⟩:∃n,n=S.l.length:=⟨_,rfl⟩
 have HN:=Lib.hid hn
 rw[←hn]at h1 h4 h5 KM
 have lS:=Lib.hid h5
 have MU:Hid (∀w',Below w.heap.size w w'→w'.cell? ⟨s,2,none⟩=some (.slice a n c)∧w'.frozen? ⟨s,2,none⟩=false):=fun w' hb=>by
  have hbb:=(hb.block s h3).trans h1
  refine⟨?_,?_⟩<;>simp[World.cell?,World.frozen?,hbb]
 clear hS hM h1 h2 h5 h6 h7 h8 hn ZT
 go_enter Tryz.func38,Tryz.ntmps38
 go_wp2_with fail
 go_loopw [7] (fun iv wr=>∃k:Nat,iv= .int .i64 k∧k≤n∧(∀x∈S.l.take k,x.id≠id)∧Below w.heap.size w wr) (fun iv _=>n-(intOf iv).toNat)
 case atStart=>exact⟨0,rfl,by omega,by simp,Below.refl _ _⟩
 case round=>
  obtain⟨k,rfl,hk,hno,hb⟩:=hrel
  have KI:=Lib.hid hno
  have HB:=Lib.hid hb
  obtain⟨c2,cf⟩:=MU.out wr hb
  clear hno
  by_cases hlt:k<n
  ·have hd:decide (k<n)=true:=by simpa using hlt
   obtain⟨x,hx⟩:∃x,S.l[k]? =some x:=⟨S.l[k]'(by rw[←HN.out];exact hlt),List.getElem?_eq_getElem _⟩
   have HRW:=lS.out
   obtain⟨g,off,rfl,hgw,_,hcell⟩:=HRW.at_ (by omega)
   obtain⟨ha,hcp,q,e0,e1,e2,e3,e4,e5,e6⟩:=DX.out.at_ hx
   have d0:wr.cell? ⟨g,off+k*3,none⟩=some (.int .i64 x.id):=(hb.cell (p:=⟨g,off+k*3,none⟩) hgw.2).trans ((hcell (k*3) (by omega)).trans e0)
   have d2:wr.cell? ⟨g,off+k*3+2,none⟩=some (ptr q):=(hb.cell (p:=⟨g,off+k*3+2,none⟩) hgw.2).trans ((hcell (k*3+2) (by omega)).trans e2)
   have Wv:=Lib.hid (Lu (e5.grow hb) e6 now)
   have HX:=Lib.hid hx
   have i0:(0:Int)≤k:=by omega
   have i1:(k:Int)<n:=by omega
   have i1':(k:Int)≤c:=by omega
   have i2:(k:Int)+1≤n:=by omega
   have i3:(0:Int)≤(k:Int)+1:=by omega
   have i4:(n:Int)≤c:=by omega
   have ew:IntKind.i64.wrap ((k:Int)+1)=(k:Int)+1:=IntWalk.i64_in _ (by omega)
   clear hx hcell e0 e1 e2 e3 e4 e5 e6 HRW
   by_cases he:x.id=id
   ·rw[he]at d0
    have HE:=Lib.hid he
    clear he
    go_wp2_with fail
    (with_reducible refine Wv.out.mono ?_)
    rintro e w1 ⟨la1,lc1,rfl,hb1⟩
    have HB1:=Lib.hid (HB.out.trans (hb1.mono HB.out.size))
    obtain⟨m,hm⟩:∃m,m=(fP x.t now).length:=⟨_,rfl⟩
    rw[←hm]
    have Vx:Hid (vV x.t now=decide (0<m)):=by
     show vV x.t now=_
     rw[Ih,hm]
    obtain⟨c2',cf'⟩:=MU.out w1 HB1.out
    clear hb1 hm c2 cf
    by_cases hpos:0<m
    ·have Wx:decide (0<m)=true:=by simpa using hpos
     rw[Wx]at Vx
     have hpd2:decide ((0:Int)<(m:Int))=true:=by simp;omega
     go_wp2_with fail
     go_ret
     exact⟨28,S,rfl, .inr ⟨k,x,HX.out,HE.out,KI.out, .inl ⟨Vx.out,rfl,rfl⟩⟩,Step.grow HM.out HB1.out,HS.out.grow HM.out HB1.out⟩
    ·have Wx:decide (0<m)=false:=by simpa using hpos
     rw[Wx]at Vx
     have hm0:m=0:=by omega
     subst hm0
     clear hpos Wx
     have nJ:Hid (∀wx,Below w1.heap.size w1 wx→ah (Free o w) wx (some ⟨g,off,none⟩) (k*3) (vals.take (k*3))∧ah (Free o w) wx (if c=k+1 then some ⟨g,off,none⟩else some ⟨g,off+(k+1)*3,none⟩) ((n-(k+1))*3) (vals.drop ((k+1)*3))):=fun wx hx=>by
      rcases BS lS.out hlt (HB1.out.trans (hx.mono HB1.out.size)) (c:=c)with h9|h9
      ·exact h9
      ·omega
     have iK:Hid (∀wx,Below w1.heap.size w1 wx→wx.cell? ⟨s,2,none⟩=some (.slice (some ⟨g,off,none⟩) n c)∧wx.frozen? ⟨s,2,none⟩=false):=fun wx hx=>MU.out wx (HB1.out.trans (hx.mono HB1.out.size))
     have Lx:=Lib.hid DX.out.one
     go_wp2_with fail
     refine qF 19 ((fun w'=>w'.cell? ⟨s,2,none⟩=some (.slice (some ⟨g,off,none⟩) n c)∧w'.frozen? ⟨s,2,none⟩=false)) ?_ fun hS=> ?_
     ·exact iK.out _ (Below.refl _ _).drew
     refine ak 0 hS ?_
     refine ak 2 hS ?_
     refine ak 3 hS ?_
     refine ak 4 hS ?_
     refine ak 5 hS ?_
     refine ak 6 hS ?_
     refine ak 7 hS ?_
     refine ak 9 hS ?_
     refine ak 10 hS ?_
     refine ak 11 hS ?_
     refine ak 12 hS ?_
     refine ak 13 hS ?_
     refine ak 14 hS ?_
     refine ak 15 hS ?_
     refine bK 1 fun K hK=> ?_
     go_simp
     refine bR hK (iK.out _ ((Below.refl _ _).drew.alloc (Nat.le_refl _) _)) fun hS=> ?_
     clear hK K
     refine bK 8 fun K hK=> ?_
     refine au (by rfl) (.tmp 40) (.tmp 46) 127 (by rfl) w1.heap.size 149 iO _ 3 40 Tryz.underlying127 sG.out.1 sG.out.2.1 sG.out.2.2.1 sG.out.2.2.2 rfl (by omega) _ 0 [] (by rfl) (eY (MapKept.heap_alloc w1.drew _).1 (Nat.le_refl _)) _ k _ (vals.take (k*3)) (by rfl) (nJ.out _ ((Below.refl _ _).drew.alloc (Nat.le_refl _) _)).1 (fun u hu=>Lx.out u (List.mem_of_mem_take hu)) (by unfold maxLen;omega) (by omega) (by simp) ?_
     intro A1 c1 w2 hown1 hb2
     have hB2:Below w1.heap.size w1 w2:=((Below.refl _ _).drew.alloc (Nat.le_refl _) _).trans hb2
     refine bR hK (iK.out _ hB2) fun hS=> ?_
     clear hK K
     refine bK 16 fun K hK=> ?_
     refine au (by rfl) (.tmp 47) (.tmp 54) 127 (by rfl) w1.heap.size 149 iO _ 3 40 Tryz.underlying127 sG.out.1 sG.out.2.1 sG.out.2.2.1 sG.out.2.2.2 rfl (by omega) _ _ _ (by rfl) hown1 _ (n-(k+1)) _ (vals.drop ((k+1)*3)) (by rfl) (nJ.out _ hB2).2 (fun u hu=>Lx.out u (List.mem_of_mem_drop hu)) (by unfold maxLen;omega) (by omega) hB2.size ?_
     intro A2 c2 w3 hown2 hb3
     have hB3:Below w1.heap.size w1 w3:=hB2.trans hb3
     refine bR hK (iK.out _ hB3) fun hS=> ?_
     clear hK K
     refine ak 17 hS ?_
     refine ak 18 hS ?_
     refine bK 19 fun K hK=> ?_
     go_simp
     refine j_ hK ?_
     clear hS hK K
     have CO:=Lib.hid hown2
     have HB3:=Lib.hid (HB1.out.trans (hB3.mono HB1.out.size))
     clear hown1 hown2 hb2 hb3 hB2 hB3
     go_wp2_with fail
     all_goals (
      go_ret
      obtain⟨-,hcc,-,hrow2⟩:=ah.lM CO.out (by unfold maxLen;omega)
      rw[List.nil_append,Nat.zero_add]at hrow2
      rw[Nat.zero_add]at hcc
      have hln:(EO S k).l.length=k+(n-(k+1)):=by
       show(S.l.take k++S.l.drop (k+1)).length=_
       have:=HN.out
       rw[List.length_append,List.length_take,List.length_drop]
       omega
      rw[←hln]at hrow2 hcc⊢
      have h1s:=HB1.out.size
      have h3s:=HB3.out.size
      have hK:Keeps (fun b=>b=s) w (w3.setCell ⟨s,2,none⟩ (.slice A2 (EO S k).l.length c2)):=(gU HB3.out).trans (Keeps.fq w3 ⟨s,2,none⟩ _) fun x _ hx=>hx
      have hst:=Fg (i:=i) HM.out RN.out hK
      have hi0:¬(fun j=>j=i) 0:=fun e=>hi e.symm
      have hh8:(w3.setCell ⟨s,2,none⟩ (.slice A2 (EO S k).l.length c2)).heap[s]? =some (.cells #[.int .i64 S.next, .slice la S.last.length lc, .slice A2 (EO S k).l.length c2] 129 (0,0)):=aG ((HB3.out.block s h3).trans HH.out)
      refine⟨0,rfl,EO S k, .inr ⟨k,x,HX.out,HE.out,KI.out, .inr ⟨Vx.out,rfl,rfl⟩⟩,hst,⟨la,lc,A2,c2,_,hh8,RN.out,by rw[size_set];omega,hcc,?_,((DX.out.take k).append (DX.out.drop (k+1))).step hi0 hst,RL.out,Vw.out.free hi0 hst⟩⟩
      refine Fh (B:=w1.heap.size) HM.out (by omega) (hrow2.move (by rw[size_set];omega) fun b hb hbw=>⟨⟨hb.1,by rw[size_set];exact hb.2⟩,aK _ _ _ _ ?_⟩)
      show b≠s
      have:=hb.1
      omega)
   ·have hed:(x.id==id)=false:=by simpa using he
    have HE:=Lib.hid he
    clear he Wv
    go_wp2_with fail
    go_roundw
    case rel=>
     refine⟨k+1,by go_num,by omega,fun y hy=> ?_,HB.out⟩
     obtain⟨hkl,ek⟩:=List.getElem?_eq_some_iff.1 HX.out
     rw[List.take_succ_eq_append_getElem hkl,ek]at hy
     rcases List.mem_append.1 hy with hy|hy
     ·exact KI.out y hy
     ·simp only[List.mem_singleton]at hy
      rw[hy];exact HE.out
    case measure=>simp[intOf];omega
  ·have hd:decide (k<n)=false:=by simpa using hlt
   have hall:∀x∈S.l,x.id≠id:=fun x hx=>KI.out x (by
    rw[List.take_of_length_le (by have:=HN.out;omega)]
    exact hx)
   have zG:=Lib.hid hall
   clear hall
   go_wp2_with fail
   go_ret
   exact⟨29,S,rfl, .inl ⟨rfl,rfl,zG.out⟩,Step.grow HM.out HB.out,HS.out.grow HM.out HB.out⟩
end
theorem Pt (a b:Int):sP a b=sP b a:=by simp only[sP,bits,BitVec.or_comm]
theorem LA (x:Int) (n:Nat) (w:World) (hx:0≤x) (h0:0<n) (h1:n<32):Calls Tryz.prog 142 #[.int .u32 x, .int .u64 (n:Int)] w fun e w'=>e= .returned (.int .u32 (jA x (32-n)))∧w=w':=by
 have e1:(0:Int)≤(n:Int):=by omega
 have e2:(n:Int)≤32:=by omega
 have e3:IntKind.u64.wrap (32-(n:Int))=32-(n:Int):=by simp[IntKind.wrap,IntKind.bits,IntKind.signed];omega
 have e4:(0:Int)≤32-(n:Int):=by omega
 have e5:32-(n:Int)≤32:=by omega
 go_enter Tryz.func142,Tryz.ntmps142
 go_wp2
 go_ret
 refine⟨?_,rfl⟩
 unfold jA
 rw[Pt,show 32-(32-n)=n by omega]
 have e6:(32-(n:Int)).toNat=32-n:=by omega
 rfl
theorem Jy (x y:Nat) (hx:x<4294967296) (hy:y<4294967296):x|||y<4294967296:=Nat.or_lt_two_pow (n:=32) hx hy
theorem Pv (d:Nat) (hd:d<4294967296):sP 0 (d:Int)=(d:Int):=by
 have h:=u32_or_nat 0 d (by decide) hd
 rw[Nat.zero_or]at h
 exact h
theorem Sq (a b c d:Nat) (ha:a<4294967296) (hb:b<4294967296) (hc:c<4294967296) (hd:d<4294967296):sP (sP (sP (a:Int) (b:Int)) (c:Int)) (d:Int)=sP (sP (sP (sP 0 (d:Int)) (c:Int)) (b:Int)) (a:Int):=by
 rw[Pv d hd]
 have h1:=Jy _ _ ha hb
 have h2:=Jy _ _ h1 hc
 have k1:=Jy _ _ hd hc
 have k2:=Jy _ _ k1 hb
 have e1:sP (sP (sP (a:Int) (b:Int)) (c:Int)) (d:Int)=((((a|||b)|||c)|||d:Nat):Int):=by
  simp only[sP]
  rw[u32_or_nat _ _ ha hb,u32_or_nat _ _ h1 hc,u32_or_nat _ _ h2 hd]
 have e2:sP (sP (sP (d:Int) (c:Int)) (b:Int)) (a:Int)=((((d|||c)|||b)|||a:Nat):Int):=by
  simp only[sP]
  rw[u32_or_nat _ _ hd hc,u32_or_nat _ _ k1 hb,u32_or_nat _ _ k2 ha]
 rw[e1,e2]
 congr 1
 ac_rfl
theorem Sr (a b c d:UInt8):sP (sP (sP ((a.toNat:Int)*16777216) ((b.toNat:Int)*65536)) ((c.toNat:Int)*256)) (d.toNat:Int)=wU a b c d:=by
 have ha:=a.toNat_lt
 have hb:=b.toNat_lt
 have hc:=c.toNat_lt
 have hd:=d.toNat_lt
 have h:=Sq (a.toNat*16777216) (b.toNat*65536) (c.toNat*256) d.toNat (by omega) (by omega) (by omega) (by omega)
 unfold wU
 rw[show(d.toNat:Int)%4294967296=(d.toNat:Int)by omega,show(c.toNat:Int)%4294967296*256%4294967296=((c.toNat*256:Nat):Int)by omega,show(b.toNat:Int)%4294967296*65536%4294967296=((b.toNat*65536:Nat):Int)by omega,show(a.toNat:Int)%4294967296*16777216%4294967296=((a.toNat*16777216:Nat):Int)by omega,←h]
 rw[show(a.toNat:Int)*16777216=((a.toNat*16777216:Nat):Int)by omega,show(b.toNat:Int)*65536=((b.toNat*65536:Nat):Int)by omega,show(c.toNat:Int)*256=((c.toNat*256:Nat):Int)by omega]
theorem Fp:∀(a b:Nat) (h:List Int) (X:List UInt8),runM h (a+b) X=runM (runM h a X) b (X.drop (64*a))
 |0,b,h,X=>by simp[runM]
 |a+1,b,h,X=>by
  rw[show a+1+b=(a+b)+1 by omega]
  show runM (fF h (X.take 64)) (a+b) (X.drop 64)=runM (runM (fF h (X.take 64)) a (X.drop 64)) b (X.drop (64*(a+1)))
  rw[Fp a b,List.drop_drop,show 64+64*a=64*(a+1)by omega]
theorem tX:∀(a:Nat) (h:List Int) (X Y:List UInt8),64*a≤X.length→runM h a (X++Y)=runM h a X
 |0,_,_,_,_=>rfl
 |a+1,h,X,Y,hl=>by
  show runM (fF h ((X++Y).take 64)) a ((X++Y).drop 64)=runM (fF h (X.take 64)) a (X.drop 64)
  rw[List.take_append_of_le_length (by omega),List.drop_append_of_le_length (by omega)]
  exact tX a _ _ _ (by rw[List.length_drop];omega)
theorem LB (a:Nat) (h:List Int) (X:List UInt8) (hl:64*a≤X.length):runM h a X=runM h a (X.take (64*a)):=by
 have h1:=tX a h (X.take (64*a)) (X.drop (64*a)) (by rw[List.length_take];omega)
 rwa [List.take_append_drop]at h1
theorem Ii (n:Nat):jQ (n-n/64*64)=jQ n:=by
 unfold jQ
 have:(n-n/64*64)%64=n%64:=by omega
 rw[this]
theorem LC (bs:List UInt8):mM bs bs.length=bs.take (bs.length/64*64)++mM (bs.drop (bs.length/64*64)) bs.length:=by
 unfold mM
 rw[List.length_drop,Ii]
 conv=>lhs;rw[←List.take_append_drop (bs.length/64*64) bs]
 simp only[List.append_assoc,List.length_append,List.length_take,List.length_drop]
 rw[show min (bs.length/64*64) bs.length+(bs.length-bs.length/64*64)=bs.length by omega]
theorem Pw (bs:List UInt8):jR bs=xM (runM rz ((mM bs bs.length).length/64) (mM bs bs.length)):=by
 have hs:=LC bs
 have ht:(bs.take (bs.length/64*64)).length=64*(bs.length/64):=by rw[List.length_take];omega
 have hl:(mM bs bs.length).length/64=bs.length/64+(mM (bs.drop (bs.length/64*64)) bs.length).length/64:=by
  rw[hs,List.length_append,ht]
  omega
 rw[hl,Fp]
 unfold jR
 have e1:runM rz (bs.length/64) (mM bs bs.length)=runM rz (bs.length/64) bs:=by
  rw[hs,tX _ _ _ _ (by omega),LB (bs.length/64) rz bs (by omega),Nat.mul_comm]
 have e2:(mM bs bs.length).drop (64*(bs.length/64))=mM (bs.drop (bs.length/64*64)) bs.length:=by
  conv=>lhs;rw[hs]
  rw[←ht,List.drop_left']
  rfl
 rw[e1,e2]
def oH (b:List UInt8) (j:Nat):List Int:=if j≤16 then(List.range j).map (rA b)else dW b (j-16)
theorem LD (b:List UInt8):oH b 0=[]:=rfl
theorem Px (b:List UInt8) (j:Nat):(oH b j).length=j:=by
 unfold oH
 split
 ·simp
 ·rw[nC];omega
theorem Jz (b:List UInt8) {j:Nat} (h:16≤j):oH b j=dW b (j-16):=by
 unfold oH
 split
 ·have:j=16:=by omega
  subst this
  rfl
 ·rfl
theorem JA (b:List UInt8) {j:Nat} (h:j<16):oH b (j+1)=oH b j++[rA b j]:=by
 unfold oH
 rw[if_pos (by omega),if_pos (by omega),List.range_succ,List.map_append]
 rfl
theorem JB (b:List UInt8) {j:Nat} (h:16≤j):oH b (j+1)=oH b j++[wV (oH b j)]:=by
 rw[Jz b h,Jz b (by omega),show j+1-16=(j-16)+1 by omega]
 rfl
theorem Py (b:List UInt8):oH b 64=dW b 48:=rfl
theorem Sv (a b:Int):0≤sP a b:=by
 simp only[sP,bits,IntKind.bits,IntKind.signed]
 simp[IntKind.wrap,IntKind.bits,IntKind.signed]
 omega
theorem Pz (a b c d:UInt8):0≤wU a b c d:=Sv _ _
theorem Dl (z:Int):0≤DW z:=Int.emod_nonneg _ (by decide)
theorem lN {l:List Int} (h:∀x∈l,0≤x) (i:Nat):0≤l.getD i 0:=by
 rw[List.getD_eq_getElem?_getD]
 cases hx:l[i]? with
 |none=>exact Int.le_refl 0
 |some x=>exact h x (List.mem_of_getElem? hx)
theorem Dm (b:List UInt8):∀j,∀x∈oH b j,0≤x
 |0,x,hx=>by rw[LD]at hx;cases hx
 |j+1,x,hx=>by
  by_cases h:j<16
  ·rw[JA b h]at hx
   rcases List.mem_append.1 hx with hx|hx
   ·exact Dm b j x hx
   ·rw[List.mem_singleton.1 hx];exact Pz _ _ _ _
  ·rw[JB b (by omega)]at hx
   rcases List.mem_append.1 hx with hx|hx
   ·exact Dm b j x hx
   ·rw[List.mem_singleton.1 hx];exact Dl _
structure rY.Nn (s:rY):Prop where
 a:0≤s.a
 c:0≤s.c
 d:0≤s.d
 e:0≤s.e
 f:0≤s.f
 g:0≤s.g
 h:0≤s.h
 j:0≤s.j
theorem rY.ZU {h:List Int} (hn:∀x∈h,0≤x):(rY.of h).Nn:=⟨lN hn 0,lN hn 1,lN hn 2,lN hn 3,lN hn 4,lN hn 5,lN hn 6,lN hn 7⟩
theorem rY.Nn.round {s:rY} (h:s.Nn) (k w:Int):(tu s k w).Nn:=⟨Dl _,h.a,h.c,h.d,Dl _,h.f,h.g,h.h⟩
theorem rY.Ce {s:rY} (h:s.Nn) (ws:List Int):∀n,(kP s ws n).Nn
 |0=>h
 |n+1=>(rY.Ce h ws n).round _ _
theorem LG (h:List Int) (b:List UInt8):∀x∈fF h b,0≤x:=by
 intro x hx
 unfold fF at hx
 obtain⟨i,hi,rfl⟩:=List.mem_iff_getElem.1 hx
 rw[List.getElem_zipWith]
 exact Dl _
theorem JC:∀(n:Nat) (h:List Int) (b:List UInt8),(∀x∈h,0≤x)→∀x∈runM h n b,0≤x
 |0,h,b,hn=>hn
 |n+1,h,b,hn=>JC n _ _ (LG h _)
theorem Wy:∀x∈rz,0≤x:=by decide
theorem rt {s:Nat} (n:Nat) (hs:s=32-n) (x:Int) (w:World) (hx:0≤x) (h0:0<n) (h1:n<32):Calls Tryz.prog 142 #[.int .u32 x, .int .u64 (n:Int)] w fun e w'=>e= .returned (.int .u32 (jA x s))∧w=w':=by
 subst hs
 exact LA x n w hx h0 h1
theorem Wz {h:List Int} (hl:h.length=8) {w:World} {b:Nat} {t:TypeId} (hb:w.heap[b]? =some (.cells (h.map dJ).toArray t (0,0))) {k:Nat} (hk:k<8):w.cell? ⟨b,k,none⟩=some (dJ (h.getD k 0)):=by
 rw[←vT hl hk]
 simp[World.cell?,hb]
theorem yC (X:List UInt8) (p j i:Nat) (h:4*j+i<64):(((X.drop p).take 64).drop (j*4)).getD i 0=X.getD (p+4*j+i) 0:=by
 rw[List.getD_eq_getElem?_getD,List.getD_eq_getElem?_getD,List.getElem?_drop,List.getElem?_take,if_pos (by omega),List.getElem?_drop]
 congr 2
 omega
theorem Sw (X:List UInt8) (p j:Nat) (h:j<16):rA ((X.drop p).take 64) j=wU (X.getD (p+4*j) 0) (X.getD (p+4*j+1) 0) (X.getD (p+4*j+2) 0) (X.getD (p+4*j+3) 0):=by
 unfold rA
 rw[yC X p j 0 (by omega),yC X p j 1 (by omega),yC X p j 2 (by omega),yC X p j 3 (by omega)]
 rfl
theorem uR {S:Nat→Prop} {w:World} {b off n:Nat} {X:List UInt8} (h:ah S w (some ⟨b,off,none⟩) n (X.map bv)) {q:Nat} (hq:q<n):w.cell? ⟨b,off+q,none⟩=some (.int .u8 ((X.getD q 0).toNat:Int)):=by
 obtain⟨b',off',e,-,-,hc⟩:=h.at_ (by omega)
 simp only[Option.some.injEq,Addr.mk.injEq,and_true]at e
 obtain⟨rfl,rfl⟩:=e
 have hl:X.length=n:=by simpa using h.length
 rw[hc q hq,List.getElem?_map,List.getElem?_eq_getElem (by omega),List.getD_eq_getElem?_getD,List.getElem?_eq_getElem (by omega)]
 rfl
theorem PD (a b c d:UInt8):sP (sP (sP ((a.toNat:Int)%4294967296*16777216%4294967296) ((b.toNat:Int)%4294967296*65536%4294967296)) ((c.toNat:Int)%4294967296*256%4294967296)) ((d.toNat:Int)%4294967296)=wU a b c d:=by
 have ha:=a.toNat_lt
 have hb:=b.toNat_lt
 have hc:=c.toNat_lt
 have hd:=d.toNat_lt
 rw[show(d.toNat:Int)%4294967296=(d.toNat:Int)by omega,show(c.toNat:Int)%4294967296*256%4294967296=(c.toNat:Int)*256 by omega,show(b.toNat:Int)%4294967296*65536%4294967296=(b.toNat:Int)*65536 by omega,show(a.toNat:Int)%4294967296*16777216%4294967296=(a.toNat:Int)*16777216 by omega]
 exact Sr a b c d
theorem Sy (H:List Int):((H.map dJ).toArray).all (·.oneCell')=true:=by
 simp[Value.oneCell']
theorem ZV (x y:Int):(x%4294967296+y%4294967296)%4294967296=(x+y)%4294967296:=by omega
theorem WA (x y:Int):(x+y%4294967296)%4294967296=(x+y)%4294967296:=by omega
theorem Ij (a c d e f g h j k w:Int):(tu ⟨a,c,d,e,f,g,h,j⟩ k w).list=[(j+bits .xor .u32 (bits .xor .u32 (jA f 26) (jA f 21)) (jA f 7)+bits .xor .u32 (bits .and .u32 f g) (bits .and .u32 (bits .xor .u32 IntKind.u32.max f) h)+k+w+(bits .xor .u32 (bits .xor .u32 (jA a 30) (jA a 19)) (jA a 10)+bits .xor .u32 (bits .xor .u32 (bits .and .u32 a c) (bits .and .u32 a d)) (bits .and .u32 c d)))%4294967296,a,c,d,(e+(j+bits .xor .u32 (bits .xor .u32 (jA f 26) (jA f 21)) (jA f 7)+bits .xor .u32 (bits .and .u32 f g) (bits .and .u32 (bits .xor .u32 IntKind.u32.max f) h)+k+w))%4294967296,f,g,h]:=by
 rw[←ZV,←WA e]
 rfl
end Go.Proofs.YtjnhnlabpccgjaaGreat
