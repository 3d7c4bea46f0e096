/- permafrostref4: Byte, Short: some bytes, and behind them these (rows of one's own). node.Right, node.Encode. A drawn region taken by hand: the condition S may be made stronger on the way. permafrostref10.Encode. -/
import Derived.Test.YtohpcppeajijnaaGreatM13
import Derived.Test.YtohpcppeajijnaaGreatM12
import Derived.Test.YtohpcppeajijnaaGreatM01
import Derived.Deep.RegionHeld3
namespace Go.Proofs.YtohpcppeajijnaaGreat
open Go.ChangeShapes Go.WideShapes Go.ChangeAt Go.RowKit
set_option linter.unusedVariables false
set_option linter.unusedSimpArgs false
def gQ (w:World) (bs:List UInt8) (e:Ending) (w':World):Prop:=
 ∃a c,e= .returned (.slice a bs.length c)∧w'.ownsRow w.heap.size 5 1 (.slice a bs.length c) bs.length (bs.map bv)∧Below w.heap.size w w'
theorem iq {w wa u:World} {own:Option Nat} (hg:wa.grownBy u own) (ho:∀b,own=some b→w.heap.size≤b) (ha:Below w.heap.size w wa):Below w.heap.size w u:=
 ⟨hg.os.trans ha.os,hg.tape.trans ha.tape,hg.output.trans ha.output,Nat.le_trans ha.size hg.size,fun b hb=>(hg.block b (Nat.lt_of_lt_of_le hb ha.size) (fun e=>by have:=ho b e.symm;omega)).trans (ha.block b hb)⟩
theorem tX (w:World):∀b,(Value.slice (some ⟨w.heap.size,0,none⟩) 0 0).ownBlock=some b→w.heap.size≤b:=by
 intro b hb
 simp[Value.ownBlock]at hb
 omega
theorem yY {w u:World} {o:Obj} {v:Value} {n:Nat} {xs:List Value} (h:u.ownsRow w.heap.size 5 1 v n xs) (ha:v.ownBlock=(Value.slice (some ⟨w.heap.size,0,none⟩) 0 0).ownBlock∨v.ownBlock=some (w.alloc o).heap.size):∀b,v.ownBlock=some b→w.heap.size≤b:=by
 intro b hb
 rcases ha with h1|h1
 ·exact tX w b (h1▸hb)
 ·rw[h1]at hb
  simp at hb
  omega
theorem rX {u:World} {B:Nat} {v:Value} {n:Nat} {xs:List Value} (h:u.ownsRow B 5 1 v n xs) (o:Obj):(u.alloc o).ownsRow B 5 1 v n xs:=
 fK h fun b _ hbw=>Below.heap_alloc u o b hbw
theorem Av {w:World} {B:Nat} {e:TypeId} {v:Value} {n b:Nat} {xs:List Value} (h:w.ownsRow B e 1 v n xs) (hb:v.ownBlock=some b):B≤b:=by
 rcases h.2 with⟨h1,_⟩|⟨g,cap,cur,rfl,hg,_⟩
 ·subst h1
  simp[Value.ownBlock]at hb
 ·simp[Value.ownBlock]at hb
  omega
set_option maxHeartbeats 2000000 in
theorem pX {S:Nat→Prop} (a:Option Addr) (m c:Nat) (l:List UInt8) (n:Int) (w:World) (hr:ak S w a m (l.map bv)) (hm:m≤100000000) (hn0:0≤n) (hn:n≤1000000000):
  Calls Tryz.prog 139 #[.slice a m c, .int .i64 n] w (gQ w (l++f_ n 1)):=by
 obtain⟨i8,hi⟩:∃i,Tryz.prog.info? 5=some i∧i.zero=some (.int .u8 0)∧i.size=1∧i.bytes=1:=info_parts (by kernel_rfl)
 have HI:=Lib.hid hi
 have HR:=Lib.hid hr
 have hlm:l.length=m:=by simpa using hr.length
 clear hr hi
 go_enter Tryz.func139,Tryz.ntmps139
 have hbw:=kS hn0 0
 have e0:n/2^(8*((0:Nat):Int)).toNat=n:=by simp
 rw[e0]at hbw
 obtain⟨b0,hb0⟩:∃b0,b0=UInt8.ofNat ((n/2^(8*0)).toNat%256):=⟨_,rfl⟩
 rw[←hb0]at hbw
 have HB0:=Lib.hid hb0
 have yZ:(w.alloc (.cells #[] 5)).ownsRow w.heap.size 5 1 (.slice (some ⟨w.heap.size,0,none⟩) 0 0) 0 []:=World.ownsRow_lit w #[] 0 (Nat.le_refl _) (by decide) rfl
 have Og:ak S (w.alloc (.cells #[] 5)) a m (l.map bv):=HR.out.below (wall w _) (Nat.le_refl _)
 have LJ:=Lib.hid yZ
 have Oh:=Lib.hid Og
 have E5:=Lib.hid (wall w (.cells #[] 5))
 have WR:(w.alloc (.cells #[] 5)).heap.size=w.heap.size+1:=by simp
 clear yZ Og hb0
 go_wp2_with (at_builtin;go_loud (first|(refine bC rfl _ _ 39 rfl w.heap.size 5 i8 _ 1 Tryz.underlying39 HI.out.1 HI.out.2.1 HI.out.2.2.1 HI.out.2.2.2 rfl _ 0 [] rfl LJ.out a m c (l.map bv) rfl Oh.out (fE l) (by unfold maxLen;omega) (by omega) (by omega) ?_;intro A1 c1 u1 hown1 hg1 _ qE;simp only[Nat.zero_add,List.nil_append]at hown1 qE;have Ap:=Lib.hid (iq hg1 (tX w) E5.out);have hs1:=Ap.out.size;have NP:=Lib.hid (iy (w:=u1) [bv b0] 5 (by unfold maxLen;simp));have NQ:=Lib.hid (rX hown1 (.cells #[bv b0] 5));have LK:=Lib.hid (wall u1 (.cells #[bv b0] 5));have Yf:(u1.alloc (.cells #[.int .u8 b0.toNat] 5)).heap.size=u1.heap.size+1:=(by simp);have Rp:=Lib.hid (yY hown1 qE);clear hown1 hg1 qE;(try simp only[Nat.zero_add]))|(refine bC rfl _ _ 39 rfl w.heap.size 5 i8 _ 1 Tryz.underlying39 HI.out.1 HI.out.2.1 HI.out.2.2.1 HI.out.2.2.2 rfl _ m (l.map bv) rfl NQ.out _ 1 1 [bv b0] rfl NP.out (fE [b0]) (by unfold maxLen;omega) (by omega) (by omega) ?_;intro A2 c2 u2 hown2 hg2 _ Aw;have HG2:=Lib.hid (iq hg2 Rp.out (Ap.out.trans (LK.out.mono Ap.out.size)));have FT:=Lib.hid hown2;clear hown2 hg2 Aw)))
 go_ret
 have e1:f_ n 1=[b0]:=by rw[HB0.out];rfl
 rw[e1]
 refine⟨A2,c2,?_,?_,HG2.out⟩
 ·rw[List.length_append,hlm];rfl
 ·rw[List.length_append,hlm,List.map_append];exact FT.out
set_option maxHeartbeats 2000000 in
theorem iN {S:Nat→Prop} (a:Option Addr) (m c:Nat) (l:List UInt8) (n:Int) (w:World) (hr:ak S w a m (l.map bv)) (hm:m≤100000000) (hn0:0≤n) (hn:n≤1000000000):
  Calls Tryz.prog 90 #[.slice a m c, .int .i64 n] w (gQ w (l++f_ n 2)):=by
 obtain⟨i8,hi⟩:∃i,Tryz.prog.info? 5=some i∧i.zero=some (.int .u8 0)∧i.size=1∧i.bytes=1:=info_parts (by kernel_rfl)
 have HI:=Lib.hid hi
 have HR:=Lib.hid hr
 have hlm:l.length=m:=by simpa using hr.length
 clear hr hi
 go_enter Tryz.func90,Tryz.ntmps90
 have hbw:=kS hn0 0
 have e0:n/2^(8*((0:Nat):Int)).toNat=n:=by simp
 rw[e0]at hbw
 have hbx:=kS hn0 1
 obtain⟨b0,hb0⟩:∃b0,b0=UInt8.ofNat ((n/2^(8*0)).toNat%256):=⟨_,rfl⟩
 rw[←hb0]at hbw
 have HB0:=Lib.hid hb0
 obtain⟨b1,hb1⟩:∃b1,b1=UInt8.ofNat ((n/2^(8*1)).toNat%256):=⟨_,rfl⟩
 have hby:n/256%256=((UInt8.ofNat ((n/2^(8*1)).toNat%256)).toNat:Int):=by
  rw[←hbx]
  have e9:(2:Int)^(8*((1:Nat):Int)).toNat=256:=by decide
  rw[e9]
  simp[IntKind.wrap,IntKind.signed,IntKind.bits]
 rw[←hb1]at hby
 clear hbx
 have HB1:=Lib.hid hb1
 have yZ:(w.alloc (.cells #[] 5)).ownsRow w.heap.size 5 1 (.slice (some ⟨w.heap.size,0,none⟩) 0 0) 0 []:=World.ownsRow_lit w #[] 0 (Nat.le_refl _) (by decide) rfl
 have Og:ak S (w.alloc (.cells #[] 5)) a m (l.map bv):=HR.out.below (wall w _) (Nat.le_refl _)
 have LJ:=Lib.hid yZ
 have Oh:=Lib.hid Og
 have E5:=Lib.hid (wall w (.cells #[] 5))
 have WR:(w.alloc (.cells #[] 5)).heap.size=w.heap.size+1:=by simp
 clear yZ Og hb0 hb1
 go_wp2_with (at_builtin;go_loud (first|(refine bC rfl _ _ 39 rfl w.heap.size 5 i8 _ 1 Tryz.underlying39 HI.out.1 HI.out.2.1 HI.out.2.2.1 HI.out.2.2.2 rfl _ 0 [] rfl LJ.out a m c (l.map bv) rfl Oh.out (fE l) (by unfold maxLen;omega) (by omega) (by omega) ?_;intro A1 c1 u1 hown1 hg1 _ qE;simp only[Nat.zero_add,List.nil_append]at hown1 qE;have Ap:=Lib.hid (iq hg1 (tX w) E5.out);have hs1:=Ap.out.size;have NP:=Lib.hid (iy (w:=u1) [bv b1,bv b0] 5 (by unfold maxLen;simp));have NQ:=Lib.hid (rX hown1 (.cells #[bv b1,bv b0] 5));have LK:=Lib.hid (wall u1 (.cells #[bv b1,bv b0] 5));have Yf:(u1.alloc (.cells #[.int .u8 b1.toNat, .int .u8 b0.toNat] 5)).heap.size=u1.heap.size+1:=(by simp);have Rp:=Lib.hid (yY hown1 qE);clear hown1 hg1 qE;(try simp only[Nat.zero_add]))|(refine bC rfl _ _ 39 rfl w.heap.size 5 i8 _ 1 Tryz.underlying39 HI.out.1 HI.out.2.1 HI.out.2.2.1 HI.out.2.2.2 rfl _ m (l.map bv) rfl NQ.out _ 2 2 [bv b1,bv b0] rfl NP.out (fE [b1,b0]) (by unfold maxLen;omega) (by omega) (by omega) ?_;intro A2 c2 u2 hown2 hg2 _ Aw;have HG2:=Lib.hid (iq hg2 Rp.out (Ap.out.trans (LK.out.mono Ap.out.size)));have FT:=Lib.hid hown2;clear hown2 hg2 Aw)))
 go_ret
 have e1:f_ n 2=[b1,b0]:=by rw[HB0.out,HB1.out];rfl
 rw[e1]
 refine⟨A2,c2,?_,?_,HG2.out⟩
 ·rw[List.length_append,hlm];rfl
 ·rw[List.length_append,hlm,List.map_append];exact FT.out
set_option maxHeartbeats 2000000 in
theorem oz {S S':Nat→Prop} (a:Option Addr) (m c:Nat) (l:List UInt8) (a':Option Addr) (m' c':Nat) (l':List UInt8) (w:World) (hr:ak S w a m (l.map bv)) (hr':ak S' w a' m' (l'.map bv)) (hm:m≤100000000) (hm':m'≤65535):
  Calls Tryz.prog 91 #[.slice a m c, .slice a' m' c'] w (gQ w (l++(f_ m' 2++l'))):=by
 obtain⟨i8,hi⟩:∃i,Tryz.prog.info? 5=some i∧i.zero=some (.int .u8 0)∧i.size=1∧i.bytes=1:=info_parts (by kernel_rfl)
 have HI:=Lib.hid hi
 have HS:=Lib.hid (iN a m c l (m':Int) w hr hm (by omega) (by omega))
 have HR:=Lib.hid hr'
 have hlm:l.length=m:=by simpa using hr.length
 have Rq:l'.length=m':=by simpa using hr'.length
 have hg:decide ((65535:Int)<(m':Int))=false:=by simp;omega
 have hg2:decide ((65535:Nat)<m')=false:=by simp;omega
 obtain⟨q,hq⟩:∃q,q=l++f_ (m':Int) 2:=⟨_,rfl⟩
 have HQ:=Lib.hid hq
 have Oi:q.length=m+2:=by rw[hq,List.length_append,hlm];rfl
 rw[←hq]at HS
 clear hr hi hr' hq
 go_enter Tryz.func91,Tryz.ntmps91
 go_wp2_with fail
 (with_reducible refine HS.out.mono ?_)
 rintro e w1 ⟨a1,c1,rfl,hown1,hb1⟩
 have nN:=Lib.hid hown1
 have HB1:=Lib.hid hb1
 have HR1:=Lib.hid (HR.out.below hb1 (Nat.le_refl _))
 have hs1:=hb1.size
 clear hown1 hb1
 obtain⟨N,hN⟩:∃N,N=q.length:=⟨_,rfl⟩
 have hN8:N≤100000002:=by omega
 have HQL:=Lib.hid Oi
 clear Oi
 rw[←hN]at nN⊢
 have HN:=Lib.hid hN
 clear hN
 have Rs:Hid (∀b,(Value.slice a1 N c1).ownBlock=some b→w.heap.size≤b):=fun b hb=>Av nN.out hb
 go_wp2_with (at_builtin;go_loud (refine bC rfl _ _ 39 rfl w.heap.size 5 i8 _ 1 Tryz.underlying39 HI.out.1 HI.out.2.1 HI.out.2.2.1 HI.out.2.2.2 rfl _ N (q.map bv) rfl nN.out a' m' c' (l'.map bv) rfl HR1.out (fE l') (by unfold maxLen;omega) (by omega) (by omega) ?_;intro A2 c2 u2 hown2 Oj _ Aw;have HG2:=Lib.hid (iq Oj Rs.out HB1.out);have FT:=Lib.hid hown2;clear hown2 Oj Aw))
 go_ret
 have e1:l++(f_ (m':Int) 2++l')=q++l':=by rw[HQ.out,List.append_assoc]
 have e2:(q++l').length=N+m':=by rw[List.length_append,Rq,←HN.out]
 rw[e1]
 refine⟨A2,c2,?_,?_,HG2.out⟩
 ·rw[e2];rfl
 ·rw[e2,List.map_append];exact FT.out
theorem Ay {S:Nat→Prop} (a:Option Addr) (m c:Nat) (l:List UInt8) (f:Bool) (w:World) (hr:ak S w a m (l.map bv)) (hm:m≤100000000):
  Calls Tryz.prog 140 #[.slice a m c, .bool f] w (gQ w (l++qG f)):=by
 have H1:=Lib.hid (pX a m c l 1 w hr hm (by omega) (by omega))
 have H0:=Lib.hid (pX a m c l 0 w hr hm (by omega) (by omega))
 clear hr
 cases f with
 |true=>
  go_enter Tryz.func140,Tryz.ntmps140
  go_wp2_with fail
  (with_reducible refine H1.out.mono ?_)
  rintro e w1 ⟨a1,c1,rfl,hown1,hb1⟩
  go_wp2_with fail
  go_ret
  exact⟨a1,c1,(by rw[List.length_append];rfl),hown1,hb1⟩
 |false=>
  go_enter Tryz.func140,Tryz.ntmps140
  go_wp2_with fail
  (with_reducible refine H0.out.mono ?_)
  rintro e w1 ⟨a1,c1,rfl,hown1,hb1⟩
  go_wp2_with fail
  go_ret
  exact⟨a1,c1,(by rw[List.length_append];rfl),hown1,hb1⟩
set_option maxHeartbeats 4000000 in
theorem Az {S:Nat→Prop} (a:Option Addr) (m c:Nat) (l:List UInt8) (n:Int) (w:World) (hr:ak S w a m (l.map bv)) (hm:m≤100000000) (hn0:0≤n) (hn:n≤18446744073709551615):
  Calls Tryz.prog 141 #[.slice a m c, .int .u64 n] w (gQ w (l++f_ n 8)):=by
 obtain⟨i8,hi⟩:∃i,Tryz.prog.info? 5=some i∧i.zero=some (.int .u8 0)∧i.size=1∧i.bytes=1:=info_parts (by kernel_rfl)
 have HI:=Lib.hid hi
 have hlm:l.length=m:=by simpa using hr.length
 have Qy:=Lib.hid hlm
 have LJ:=Lib.hid (show(w.alloc (.cells #[] 5)).ownsRow w.heap.size 5 1 (.slice (some ⟨w.heap.size,0,none⟩) 0 0) 0 []from World.ownsRow_lit w #[] 0 (Nat.le_refl _) (by decide) rfl)
 have Oh:Hid (ak S (w.alloc (.cells #[] 5)) a m (l.map bv)):=hr.below (wall w _) (Nat.le_refl _)
 have E5:=Lib.hid (wall w (.cells #[] 5))
 have WR:(w.alloc (.cells #[] 5)).heap.size=w.heap.size+1:=by simp
 clear hr hi hlm
 go_enter Tryz.func141,Tryz.ntmps141
 go_wp2_with (at_builtin;go_loud (refine bC rfl _ _ 39 rfl w.heap.size 5 i8 _ 1 Tryz.underlying39 HI.out.1 HI.out.2.1 HI.out.2.2.1 HI.out.2.2.2 rfl _ 0 [] rfl LJ.out a m c (l.map bv) rfl Oh.out (fE l) (by unfold maxLen;omega) (by omega) (by omega) ?_;intro A1 c1 u1 hown1 hg1 _ qE;simp only[Nat.zero_add,List.nil_append]at hown1 qE;have Ap:=Lib.hid (iq hg1 (tX w) E5.out);have nN:=Lib.hid hown1;clear hown1 hg1 qE;(try simp only[Nat.zero_add])))
 go_loopw [5,6] (fun ov iv wr=>∃(k:Nat) (dn:List UInt8) (a1:Option Addr) (c1:Nat),k≤8∧iv= .int .i64 (8*(k:Int)-8)∧dn++f_ n k=f_ n 8∧dn.length+k=8∧ov= .slice a1 (m+dn.length) c1∧wr.ownsRow w.heap.size 5 1 (.slice a1 (m+dn.length) c1) (m+dn.length) ((l++dn).map bv)∧Below w.heap.size w wr) (fun _ iv _=>((intOf iv)+8).toNat)
 case atStart=>exact⟨8,[],A1,c1,by omega,rfl,rfl,rfl,rfl,by simpa using nN.out,Ap.out⟩
 case round=>
  obtain⟨k,dn,a1,c1,hk,rfl,hdn,hdl,rfl,hown,hB⟩:=hrel
  have xM:=Lib.hid hdn
  have HO:=Lib.hid hown
  have HB:=Lib.hid hB
  have Ja:=hB.size
  clear hdn hown hB
  cases k with
  |zero=>
   have e0:8*((0:Nat):Int)-8= -8:=by omega
   rw[e0]
   have Jb:Hid (dn.length=8):=Lib.hid (by omega)
   clear hdl
   go_wp2_with fail
   go_ret
   have h9:dn++[]=f_ n 8:=xM.out
   rw[List.append_nil]at h9
   refine⟨a1,c1,?_,?_,HB.out⟩
   ·rw[←h9,List.length_append,Qy.out];rfl
   ·rw[←h9,List.length_append,Qy.out];exact HO.out
  |succ k=>
   have hk0:(0:Int)≤k:=by omega
   have e1:8*((k+1:Nat):Int)-8=8*(k:Int):=by omega
   rw[e1]
   have hge:decide ((0:Int)≤8*(k:Int))=true:=by simp;omega
   have hbw:n/2^(8*k)%256=((UInt8.ofNat ((n/2^(8*k)).toNat%256)).toNat:Int):=by
    rw[←kS hn0 k,show(8*(k:Int)).toNat=8*k by omega]
    simp[IntKind.wrap,IntKind.signed,IntKind.bits]
   obtain⟨b0,hb0⟩:∃b0,b0=UInt8.ofNat ((n/2^(8*k)).toNat%256):=⟨_,rfl⟩
   rw[←hb0]at hbw
   have HB0:=Lib.hid hb0
   obtain⟨N,hN⟩:∃N,N=m+dn.length:=⟨_,rfl⟩
   have Rh:N≤100000008:=by omega
   rw[←hN]at HO⊢
   have zW:=Lib.hid hN
   have E8:=Lib.hid hdl
   have uI:Below wr.heap.size wr (wr.alloc (.cells #[bv b0] 5)):=wall wr _
   have HOW:=Lib.hid (rX HO.out (.cells #[bv b0] 5))
   have Rs:Hid (∀b,(Value.slice a1 N c1).ownBlock=some b→w.heap.size≤b):=fun b hb=>Av HO.out hb
   have LK:=Lib.hid (HB.out.trans (uI.mono Ja))
   clear hb0 hN hdl uI
   go_wp2_with (at_builtin;go_loud (refine bC rfl _ _ 39 rfl w.heap.size 5 i8 _ 1 Tryz.underlying39 HI.out.1 HI.out.2.1 HI.out.2.2.1 HI.out.2.2.2 rfl _ N ((l++dn).map bv) rfl HOW.out (some ⟨wr.heap.size,0,none⟩) 1 1 [bv b0] rfl (tO (bv b0) 5) (by simp[bv,Value.oneCell']) (by unfold maxLen;omega) (by omega) (by simp;omega) ?_;intro A2 c2 u2 hown2 hg2 _ Aw;have HG2:=Lib.hid (iq hg2 Rs.out LK.out);have FT:=Lib.hid hown2;clear hown2 hg2 Aw))
   go_roundw
   case rel=>
    refine⟨k,dn++[b0],A2,c2,by omega,by go_num,?_,by have:=E8.out;simp;omega,?_,?_,HG2.out⟩
    ·rw[List.append_assoc,←xM.out,HB0.out]
     rfl
    ·rw[List.length_append,←Nat.add_assoc,←zW.out];rfl
    ·rw[List.length_append,←Nat.add_assoc,←zW.out,←List.append_assoc,List.map_append]
     exact FT.out
   case measure=>simp[intOf];omega
set_option maxHeartbeats 2000000 in
theorem AA (k:Int) (x:bF) (h1:Ci x) (hk:0≤k) (hk':k≤65535) (w:World):Calls Tryz.prog 134 #[iM k x] w fun e w'=>e= .returned (.bool true)∧Below w.heap.size w w':=by
 obtain⟨l0,l1⟩:=h1.links
 obtain⟨t0,t1⟩:=h1.aQ
 have hb:=h1.size
 obtain⟨n,hn⟩:∃n,n=x.b.length:=⟨_,rfl⟩
 rw[←hn]at hb
 have d1:decide (k<0)=false:=by simpa using hk
 have d2:decide (65535<k)=false:=by simpa using hk'
 have d3:decide (x.links<0)=false:=by simpa using l0
 have d4:decide (65535<x.links)=false:=by simp;omega
 have d5:decide ((n:Int)≤4096)=true:=by simp;omega
 have d6:decide (x.aQ≤1099511627776)=true:=by simpa using t1
 have d7:decide ((0:Int)≤(n:Int))=true:=by simp
 unfold iM
 rw[←hn]
 by_cases hk2:x.kind=2
 ·obtain⟨_,hcl,hbn,htl⟩:=h1.dir hk2
  have hn0:n=0:=by rw[hn,hbn];rfl
  subst hn0
  rw[hk2,hcl,htl]
  clear hn h1 hk2 hcl hbn htl d6
  go_enter Tryz.func134,Tryz.ntmps134
  go_wp2
  all_goals (first|(go_ret;exact⟨rfl,wall w _⟩)|((try simp only[Exit.inBlock,Exit.then]);refine bodyPost_ret (by rfl) rfl ?_;exact⟨rfl,wall w _⟩))
 ·have hk1:=h1.kind.resolve_right hk2
  rw[hk1]
  clear hn h1 hk2 hk1
  go_enter Tryz.func134,Tryz.ntmps134
  go_wp2
  all_goals (first|(go_ret;exact⟨rfl,wall w _⟩)|((try simp only[Exit.inBlock,Exit.then]);refine bodyPost_ret (by rfl) rfl ?_;exact⟨rfl,wall w _⟩))
def oC (k:Int) (x:bF):List UInt8:=f_ k 2++f_ x.kind 1++f_ x.links 2++f_ x.b.length 2++f_ x.aQ 8++qG x.closed
theorem eO (n:Int):∀s,(f_ n s).length=s
 |0=>rfl
 |s+1=>by unfold f_;rw[List.length_cons,eO n s]
theorem jA (k:Int) (x:bF):(oC k x).length=16:=by
 unfold oC qG
 simp only[List.length_append,eO]
set_option maxHeartbeats 4000000 in
theorem AB (k:Int) (x:bF) (h1:Ci x) (hk:0≤k) (hk':k≤65535) (w:World):Calls Tryz.prog 85 #[iM k x] w fun e w'=>∃a n c,e= .returned (.tuple #[.slice a n c, .int .i64 0])∧n≤c∧ak (fun b=>w.heap.size≤b∧b<w'.heap.size) w' a n ((oC k x).map bv)∧Below w.heap.size w w':=by
 have HR:=Lib.hid (fun w'=>AA k x h1 hk hk' w')
 obtain⟨l0,l1⟩:=h1.links
 obtain⟨t0,t1⟩:=h1.aQ
 have hb:=h1.size
 have hkd:0≤x.kind∧x.kind≤2:=by rcases h1.kind with h|h<;>omega
 obtain⟨WS,Yg⟩:=hkd
 unfold oC
 obtain⟨n,hn⟩:∃n:Nat,n=x.b.length:=⟨_,rfl⟩
 rw[←hn]at hb
 unfold iM at HR⊢
 rw[←hn]at HR⊢
 clear h1 hn
 go_enter Tryz.func85,Tryz.ntmps85
 go_wp2_with fail
 (with_reducible refine(HR.out _).mono ?_)
 rintro e w1 ⟨rfl,hb1⟩
 have hsa:(w.alloc (.cells #[.int .i64 k, .int .i64 x.kind, .int .i64 x.links, .int .i64 n, .int .u64 x.aQ, .bool x.closed] 98)).heap.size=w.heap.size+1:=by simp
 have hs1:=hb1.size
 have HQ:Hid (∀w',Below w1.heap.size w1 w'→∀j,w'.cell? ⟨w.heap.size,j,none⟩=(#[.int .i64 k, .int .i64 x.kind, .int .i64 x.links, .int .i64 n, .int .u64 x.aQ, .bool x.closed]:Array Value)[j]?):=fun w' hb j=>by
  rw[hb.cell (p:=⟨w.heap.size,j,none⟩) (by simp only;omega),hb1.cell (p:=⟨w.heap.size,j,none⟩) (by simp)]
  exact gM (MapKept.heap_alloc w _).1 j
 have HB1:=Lib.hid ((wall w (.cells #[.int .i64 k, .int .i64 x.kind, .int .i64 x.links, .int .i64 n, .int .u64 x.aQ, .bool x.closed] 98)).trans (hb1.mono (by omega)))
 clear hb1 HR
 go_wp2_with fail
 (with_reducible refine(pQ w1).mono ?_)
 rintro e w2 ⟨rfl,hW2,hb2⟩
 have HW2:=Lib.hid hW2
 have HB2:=Lib.hid hb2
 clear hW2 hb2
 have q0:w2.cell? ⟨w.heap.size,0,none⟩=some (.int .i64 k):=HQ.out _ HB2.out 0
 have NR:=Lib.hid (jN HW2.out k (by omega) (by omega) (by simp only[List.length_append,List.length_nil,eO];omega))
 go_wp2_with fail
 (with_reducible refine NR.out.mono ?_)
 rintro e w3 ⟨rfl,v3,Jc⟩
 have HW3:=Lib.hid Jc.1
 have HB3:=Lib.hid (HB2.out.trans (Jc.low HW2.out))
 clear q0 Jc NR HW2 HB2
 have q1:w3.cell? ⟨w.heap.size,1,none⟩=some (.int .i64 x.kind):=HQ.out _ HB3.out 1
 have qo:=Lib.hid (uQ HW3.out x.kind (by omega) (by omega) (by simp only[List.length_append,List.length_nil,eO];omega))
 go_wp2_with fail
 (with_reducible refine qo.out.mono ?_)
 rintro e w4 ⟨rfl,v4,KU⟩
 have NS:=Lib.hid KU.1
 have eG:=Lib.hid (HB3.out.trans (KU.low HW3.out))
 clear q1 KU qo HW3 HB3
 have q2:w4.cell? ⟨w.heap.size,2,none⟩=some (.int .i64 x.links):=HQ.out _ eG.out 2
 have HS2:=Lib.hid (jN NS.out x.links (by omega) (by omega) (by simp only[List.length_append,List.length_nil,eO];omega))
 go_wp2_with fail
 (with_reducible refine HS2.out.mono ?_)
 rintro e w5 ⟨rfl,v5,Jv⟩
 have Rt:=Lib.hid Jv.1
 have iY:=Lib.hid (eG.out.trans (Jv.low NS.out))
 clear q2 Jv HS2 NS eG
 have q3:w5.cell? ⟨w.heap.size,3,none⟩=some (.int .i64 n):=HQ.out _ iY.out 3
 have I9:=Lib.hid (jN Rt.out (n:Int) (by omega) (by omega) (by simp only[List.length_append,List.length_nil,eO];omega))
 go_wp2_with fail
 (with_reducible refine I9.out.mono ?_)
 rintro e w6 ⟨rfl,v6,LM⟩
 have Ru:=Lib.hid LM.1
 have qH:=Lib.hid (iY.out.trans (LM.low Rt.out))
 clear q3 LM I9 Rt iY
 have q4:w6.cell? ⟨w.heap.size,4,none⟩=some (.int .u64 x.aQ):=HQ.out _ qH.out 4
 have FM:=Lib.hid (FU Ru.out x.aQ (by omega) (by omega) (by simp only[List.length_append,List.length_nil,eO];omega))
 go_wp2_with fail
 (with_reducible refine FM.out.mono ?_)
 rintro e w7 ⟨rfl,v7,FX⟩
 have Rv:=Lib.hid FX.1
 have yD:=Lib.hid (qH.out.trans (FX.low Ru.out))
 clear q4 FX FM Ru qH
 have q5:w7.cell? ⟨w.heap.size,5,none⟩=some (.bool x.closed):=HQ.out _ yD.out 5
 have LP:=Lib.hid (FV Rv.out x.closed (by simp only[List.length_append,List.length_nil,eO];omega))
 go_wp2_with fail
 (with_reducible refine LP.out.mono ?_)
 rintro e w8 ⟨rfl,v8,Rw⟩
 have Yh:=Lib.hid Rw.1
 have tH:=Lib.hid (yD.out.trans (Rw.low Rv.out))
 clear q5 Rw LP Rv yD
 have HD:=Lib.hid (yX Yh.out (by simp only[List.length_append,List.length_nil,eO,qG];omega))
 go_wp2_with fail
 (with_reducible refine HD.out.mono ?_)
 rintro e w9 ⟨a9,n9,c9,rfl,KV,Jw,AJ⟩
 have Jy:=Lib.hid Jw
 have LQ:=Lib.hid (tH.out.trans (AJ.mono tH.out.size))
 have E9:=tH.out.size
 have Rx:=KV
 clear Jw AJ HD
 go_wp2_with fail
 go_ret2
 refine⟨a9,n9,c9,rfl,Rx,?_,HB1.out.trans (LQ.out.mono HB1.out.size)⟩
 have h9:=Jy.out.mono (S':=fun b=>w.heap.size≤b∧b<w9.heap.size) fun b hb=>⟨by have:=HB1.out.size;omega,hb.2⟩
 simpa using h9
theorem jX {P:Program} {md:Region.Mode} {ops:Array Oper} {Q:Exit→Act→World→Prop} {S S':World→Prop} (h:∀w,S' w→S w):
  ∀(fuel:Nat) (listed:Array Bool) (a:Act) (w:World),wpAnyH P md ops Q S' fuel listed a w→wpAnyH P md ops Q S fuel listed a w
 |0,_,_,_,hw=>hw
 |fuel+1,_,_,_,hw=>⟨hw.1,fun i hi=>wpOp_mono (fun _ _ h'=>⟨h _ h'.1,jX h fuel _ _ _ h'.2⟩) (hw.2 i hi)⟩
open Go
theorem iV {P:Program} {ops:Array Oper} {Q:Exit→Act→World→Prop} {md:Region.Mode} {S:World→Prop} (i:Nat) {oi:Oper} {v:Value} {fuel:Nat} {listed l':Array Bool} {a a':Act} {w:World}
  (hi:ops[i]? =some oi:=by simp only[List.getElem?_toArray,List.getElem?_cons_succ,List.getElem?_cons_zero];rfl)
  (hs:Region.noSelect ops=true:=by kernel_rfl) (hf:Region.free md ops listed i=true:=by kernel_rfl) (hr:(Region.ready md ops listed).contains i=true:=by kernel_rfl)
  (hQ:∀c a w,Q (.panic c) (a.put oi.dst v) w→Q (.panic c) a w:=by exact fun _ _ _ h=>h)
  (hw:Region.wanted oi (yielded ops a.tmps)=true:=by rfl)
  (hy:∀w,S w→(execOp a.eval oi).run P w= .ok (.value v) w:=by intro w hSw;(try dsimp only at hSw);go_simp;(try with_reducible rfl))
  (hl:listed.setIfInBounds i true=l':=by(try simp only[List.setIfInBounds_toArray,List.set_cons_zero,List.set_cons_succ]);rfl)
  (ha:a.put oi.dst v=a':=by(try simp only[Act.put,List.setIfInBounds_toArray,List.set_cons_zero,List.set_cons_succ]);rfl)
  (hS:S w) (h:wpAnyH P md ops Q S fuel l' a' w):wpAnyH P md ops Q S (fuel+1) listed a w:=
 wpAnyH_take hi hs hf hr hQ (Or.inl ⟨hw,hy⟩) hS (by rw[hl,ha];exact h)
theorem wm {P:Program} {ops:Array Oper} {Q:Exit→Act→World→Prop} {md:Region.Mode} {S:World→Prop} (i:Nat) {o:Oper} {fuel:Nat} {listed:Array Bool} {a:Act} {w:World}
  (ho:ops[i]? =some o:=by simp only[List.getElem?_toArray,List.getElem?_cons_succ,List.getElem?_cons_zero];rfl) (hr:Region.ready md ops listed=[i]:=by kernel_rfl)
  (h:∀K':Act→World→Prop,Shut (∀a w,S w→(S w→wpAnyH P md ops Q S fuel (listed.setIfInBounds i true) a w)→K' a w)→if Region.wanted o (yielded ops a.tmps)=true then Oper.wp P o a w K' Q else K' (a.put o.dst undef) w):wpAnyH P md ops Q S (fuel+1) listed a w:=
 wpAnyH_ready hr (by simp) (AllReadyH.cons ho h AllReadyH.nil)
theorem uR {w:World} {B B':Nat} {e:TypeId} {k:Nat} {v:Value} {n:Nat} {xs:List Value} (h:w.ownsRow B' e k v n xs) (hb:B≤B'):w.ownsRow B e k v n xs:=by
 obtain⟨h1,h2⟩:=h
 refine⟨h1,h2.imp id ?_⟩
 rintro ⟨g,cap,cur,e1,e2,e3⟩
 exact⟨g,cap,cur,e1,Nat.le_trans hb e2,e3⟩
theorem fI {w:World} {B:Nat} {a:Option Addr} {c:Nat} {bs:List UInt8} (h:w.ownsRow B 5 1 (.slice a bs.length c) bs.length (bs.map bv)):ak (fun x=>B≤x∧x<w.heap.size) w a bs.length (bs.map bv):=(ak.mW h).2
theorem Jz (k:Int) (x:bF):oC k x=(((((f_ k 2++f_ x.kind 1)++f_ x.links 2)++f_ x.b.length 2)++f_ x.aQ 8)++qG x.closed):=rfl
set_option maxHeartbeats 4000000 in
theorem AL (k:Int) (x:bF) (h1:Ci x) (hk:0≤k) (hk':k≤65535) (w:World):Calls Tryz.prog 92 #[iM k x] w (gQ w (oC k x)):=by
 obtain⟨l0,l1⟩:=h1.links
 obtain⟨t0,t1⟩:=h1.aQ
 have hb:=h1.size
 have hkd:0≤x.kind∧x.kind≤2:=by rcases h1.kind with h|h<;>omega
 obtain⟨WS,Yg⟩:=hkd
 rw[Jz]
 obtain⟨n,hn⟩:∃n:Nat,n=x.b.length:=⟨_,rfl⟩
 rw[←hn]at hb
 unfold iM
 rw[←hn]
 clear h1 hn
 obtain⟨L1,hL1⟩:∃L,L=f_ k 2:=⟨_,rfl⟩
 have hl1:L1.length=2:=by rw[hL1];rfl
 have qo:Hid (∀w':World,Calls Tryz.prog 90 #[.slice none 0 0, .int .i64 k] w' (gQ w' L1)):=fun w'=>by rw[hL1];exact iN (S:=fun _=>True) none 0 0 [] k w' (ak.nil _ _ _) (by omega) hk (by omega)
 obtain⟨L2,hL2⟩:∃L,L=L1++f_ x.kind 1:=⟨_,rfl⟩
 have hl2:L2.length=3:=by rw[hL2,List.length_append,hl1];rfl
 have HS2:Hid (∀(B:Nat) (w':World) (a:Option Addr) (c:Nat),w'.ownsRow B 5 1 (.slice a L1.length c) L1.length (L1.map bv)→Calls Tryz.prog 139 #[.slice a L1.length c, .int .i64 x.kind] w' (gQ w' L2)):=fun B w' a c h=>by rw[hL2];exact pX a _ c _ x.kind w' (fI h) (by omega) WS (by omega)
 obtain⟨L3,hL3⟩:∃L,L=L2++f_ x.links 2:=⟨_,rfl⟩
 have hl3:L3.length=5:=by rw[hL3,List.length_append,hl2];rfl
 have I9:Hid (∀(B:Nat) (w':World) (a:Option Addr) (c:Nat),w'.ownsRow B 5 1 (.slice a L2.length c) L2.length (L2.map bv)→Calls Tryz.prog 90 #[.slice a L2.length c, .int .i64 x.links] w' (gQ w' L3)):=fun B w' a c h=>by rw[hL3];exact iN a _ c _ x.links w' (fI h) (by omega) l0 (by omega)
 obtain⟨L4,hL4⟩:∃L,L=L3++f_ (n:Int) 2:=⟨_,rfl⟩
 have hl4:L4.length=7:=by rw[hL4,List.length_append,hl3];rfl
 have FM:Hid (∀(B:Nat) (w':World) (a:Option Addr) (c:Nat),w'.ownsRow B 5 1 (.slice a L3.length c) L3.length (L3.map bv)→Calls Tryz.prog 90 #[.slice a L3.length c, .int .i64 (n:Int)] w' (gQ w' L4)):=fun B w' a c h=>by rw[hL4];exact iN a _ c _ (n:Int) w' (fI h) (by omega) (by omega) (by omega)
 obtain⟨L5,hL5⟩:∃L,L=L4++f_ x.aQ 8:=⟨_,rfl⟩
 have hl5:L5.length=15:=by rw[hL5,List.length_append,hl4];rfl
 have LP:Hid (∀(B:Nat) (w':World) (a:Option Addr) (c:Nat),w'.ownsRow B 5 1 (.slice a L4.length c) L4.length (L4.map bv)→Calls Tryz.prog 141 #[.slice a L4.length c, .int .u64 x.aQ] w' (gQ w' L5)):=fun B w' a c h=>by rw[hL5];exact Az a _ c _ x.aQ w' (fI h) (by omega) t0 (by omega)
 obtain⟨L6,hL6⟩:∃L,L=L5++qG x.closed:=⟨_,rfl⟩
 have Yi:L6.length=16:=by rw[hL6,List.length_append,hl5];rfl
 have yE:Hid (∀(B:Nat) (w':World) (a:Option Addr) (c:Nat),w'.ownsRow B 5 1 (.slice a L5.length c) L5.length (L5.map bv)→Calls Tryz.prog 140 #[.slice a L5.length c, .bool x.closed] w' (gQ w' L6)):=fun B w' a c h=>by rw[hL6];exact Ay a _ c _ x.closed w' (fI h) (by omega)
 rw[←hL1,←hL2,←hL3,←hL4,←hL5,←hL6]
 clear hL6 hL5 hL4 hL3 hL2 hL1
 clear hl1 hl2 hl3 hl4 hl5 Yi
 have HQ:Hid (∀w',Below (w.alloc (.cells #[.int .i64 k, .int .i64 x.kind, .int .i64 x.links, .int .i64 (n:Int), .int .u64 x.aQ, .bool x.closed] 98)).heap.size (w.alloc (.cells #[.int .i64 k, .int .i64 x.kind, .int .i64 x.links, .int .i64 (n:Int), .int .u64 x.aQ, .bool x.closed] 98)) w'→∀j,w'.cell? ⟨w.heap.size,j,none⟩=(#[.int .i64 k, .int .i64 x.kind, .int .i64 x.links, .int .i64 (n:Int), .int .u64 x.aQ, .bool x.closed]:Array Value)[j]?):=fun w' hb j=>by
  rw[hb.cell (p:=⟨w.heap.size,j,none⟩) (by simp)]
  exact gM (MapKept.heap_alloc w _).1 j
 have E5:=Lib.hid (wall w (.cells #[.int .i64 k, .int .i64 x.kind, .int .i64 x.links, .int .i64 (n:Int), .int .u64 x.aQ, .bool x.closed] 98))
 go_enter Tryz.func92,Tryz.ntmps92
 go_wp2_with fail
 generalize (w.alloc (.cells #[.int .i64 k, .int .i64 x.kind, .int .i64 x.links, .int .i64 (n:Int), .int .u64 x.aQ, .bool x.closed] 98))=wa at*
 have hza:=E5.out.size
 refine wp_region_noPanic ?_
 refine wp_region_held_drew (S:=(fun w'=>w'.cell? ⟨w.heap.size,0,none⟩=some (.int .i64 k)∧w'.cell? ⟨w.heap.size,1,none⟩=some (.int .i64 x.kind)∧w'.cell? ⟨w.heap.size,2,none⟩=some (.int .i64 x.links))) (by kernel_rfl) ?_ (fun hS=> ?_)
 ·exact⟨HQ.out _ (Below.refl _ _).drew 0,HQ.out _ (Below.refl _ _).drew 1,HQ.out _ (Below.refl _ _).drew 2⟩
 refine iV 0 (hS:=hS) (h:= ?_)
 refine iV 1 (hS:=hS) (h:= ?_)
 refine iV 3 (hS:=hS) (h:= ?_)
 refine iV 4 (hS:=hS) (h:= ?_)
 refine iV 6 (hS:=hS) (h:= ?_)
 refine iV 7 (hS:=hS) (h:= ?_)
 refine wm 2 (h:=fun K hK=> ?_)
 go_simp
 (with_reducible refine(qo.out _).mono ?_)
 rintro e w1 ⟨a1,c1,rfl,hown1,hb1'⟩
 have hb1:Below wa.heap.size wa w1:=(Below.refl _ _).drew.trans hb1'
 go_simp
 refine hK.out _ _ (⟨HQ.out _ hb1 0,HQ.out _ hb1 1,HQ.out _ hb1 2⟩) (fun hS=> ?_)
 clear hK K
 try simp only[Act.put,List.setIfInBounds_toArray,List.set_cons_zero,List.set_cons_succ]
 refine wm 5 (h:=fun K hK=> ?_)
 go_simp
 (with_reducible refine(HS2.out _ _ _ _ hown1).mono ?_)
 rintro e w2 ⟨a2,c2,rfl,hown2,hb2'⟩
 have hb2:Below wa.heap.size wa w2:=hb1.trans (hb2'.mono hb1.size)
 go_simp
 refine hK.out _ _ (⟨HQ.out _ hb2 0,HQ.out _ hb2 1,HQ.out _ hb2 2⟩) (fun hS=> ?_)
 clear hK K
 try simp only[Act.put,List.setIfInBounds_toArray,List.set_cons_zero,List.set_cons_succ]
 refine wm 8 (h:=fun K hK=> ?_)
 go_simp
 (with_reducible refine(I9.out _ _ _ _ hown2).mono ?_)
 rintro e w3 ⟨a3,c3,rfl,hown3,LU⟩
 have hb3:Below wa.heap.size wa w3:=hb2.trans (LU.mono hb2.size)
 go_simp
 refine hK.out _ _ (⟨HQ.out _ hb3 0,HQ.out _ hb3 1,HQ.out _ hb3 2⟩) (fun hS=> ?_)
 clear hK K
 try simp only[Act.put,List.setIfInBounds_toArray,List.set_cons_zero,List.set_cons_succ]
 refine wm 9 (h:=fun K hK=> ?_)
 go_simp
 refine hK.out _ _ (⟨HQ.out _ hb3 0,HQ.out _ hb3 1,HQ.out _ hb3 2⟩) (fun hS=> ?_)
 clear hK K
 try simp only[Act.put,List.setIfInBounds_toArray,List.set_cons_zero,List.set_cons_succ]
 refine wpAnyH_done (by kernel_rfl) ?_ _
 refine NoPanic.normal ?_
 go_wp2_with fail
 have LV:w3.drew.ownsRow w2.heap.size 5 1 (.slice a3 L3.length c3) L3.length (L3.map bv):=hown3
 refine wp_region_noPanic ?_
 refine wp_region_held_drew (S:=(fun w'=>w'.cell? ⟨w.heap.size,3,none⟩=some (.int .i64 (n:Int))∧w'.cell? ⟨w.heap.size,4,none⟩=some (.int .u64 x.aQ)∧w'.cell? ⟨w.heap.size,5,none⟩=some (.bool x.closed))) (by kernel_rfl) ?_ (fun hS=> ?_)
 ·exact⟨HQ.out _ hb3.drew 3,HQ.out _ hb3.drew 4,HQ.out _ hb3.drew 5⟩
 refine iV 0 (hS:=hS) (h:= ?_)
 refine iV 1 (hS:=hS) (h:= ?_)
 refine iV 2 (hS:=hS) (h:= ?_)
 refine iV 4 (hS:=hS) (h:= ?_)
 refine iV 5 (hS:=hS) (h:= ?_)
 refine iV 7 (hS:=hS) (h:= ?_)
 refine iV 8 (hS:=hS) (h:= ?_)
 refine wm 3 (h:=fun K hK=> ?_)
 go_simp
 (with_reducible refine(FM.out _ _ _ _ LV).mono ?_)
 rintro e w4 ⟨a4,c4,rfl,mE,FY⟩
 have hb4:Below wa.heap.size wa w4:=hb3.drew.trans (FY.mono hb3.size)
 go_simp
 refine hK.out _ _ (⟨HQ.out _ hb4 3,HQ.out _ hb4 4,HQ.out _ hb4 5⟩) (fun hS=> ?_)
 clear hK K
 try simp only[Act.put,List.setIfInBounds_toArray,List.set_cons_zero,List.set_cons_succ]
 refine wm 6 (h:=fun K hK=> ?_)
 go_simp
 (with_reducible refine(LP.out _ _ _ _ mE).mono ?_)
 rintro e w5 ⟨a5,c5,rfl,hown5,JA⟩
 have hb5:Below wa.heap.size wa w5:=hb4.trans (JA.mono hb4.size)
 go_simp
 refine hK.out _ _ (⟨HQ.out _ hb5 3,HQ.out _ hb5 4,HQ.out _ hb5 5⟩) (fun hS=> ?_)
 clear hK K
 try simp only[Act.put,List.setIfInBounds_toArray,List.set_cons_zero,List.set_cons_succ]
 refine wm 9 (h:=fun K hK=> ?_)
 go_simp
 (with_reducible refine(yE.out _ _ _ _ hown5).mono ?_)
 rintro e w6 ⟨a6,c6,rfl,hown6,JB⟩
 have hb6:Below wa.heap.size wa w6:=hb5.trans (JB.mono hb5.size)
 go_simp
 refine hK.out _ _ (⟨HQ.out _ hb6 3,HQ.out _ hb6 4,HQ.out _ hb6 5⟩) (fun hS=> ?_)
 clear hK K
 try simp only[Act.put,List.setIfInBounds_toArray,List.set_cons_zero,List.set_cons_succ]
 refine wm 10 (h:=fun K hK=> ?_)
 go_simp
 refine hK.out _ _ (⟨HQ.out _ hb6 3,HQ.out _ hb6 4,HQ.out _ hb6 5⟩) (fun hS=> ?_)
 clear hK K
 try simp only[Act.put,List.setIfInBounds_toArray,List.set_cons_zero,List.set_cons_succ]
 refine wpAnyH_done (by kernel_rfl) ?_ _
 refine NoPanic.normal ?_
 go_wp2_with fail
 go_ret
 exact⟨a6,c6,rfl,uR hown6 (by have:=hb5.size;have:=E5.out.size;omega),E5.out.trans (hb6.mono E5.out.size)⟩
end Go.Proofs.YtohpcppeajijnaaGreat
