/- permafrostref4: Byte, Short: some bytes, and behind them these (rows of one's own). permafrostref10.Encode. -/
import Derived.Test.YtmabllemjkcobaaGreatM35
import Derived.Test.YtmabllemjkcobaaGreatM36
import Derived.Test.YtmabllemjkcobaaGreatM31
namespace Go.Proofs.YtmabllemjkcobaaGreat
open Go.ChangeShapes Go.WideShapes Go.ChangeAt Go.RowKit
set_option linter.unusedVariables false
set_option linter.unusedSimpArgs false
def iV (w:World) (bs:List UInt8) (e:Ending) (w':World):Prop:=
 ∃a c,e= .returned (.slice a bs.length c)∧w'.ownsRow w.heap.size 5 1 (.slice a bs.length c) bs.length (bs.map bv)∧Below w.heap.size w w'
theorem ji {w wa u:World} {own:Option Nat} (hg:wa.grownBy u own) (ho:∀b,own=some b→w.heap.size≤b) (ha:Below w.heap.size w wa):Below w.heap.size w u:=
 ⟨hg.os.trans ha.os,hg.tape.trans ha.tape,hg.output.trans ha.output,Nat.le_trans ha.size hg.size,fun b hb=>(hg.block b (Nat.lt_of_lt_of_le hb ha.size) (fun e=>by have:=ho b e.symm;omega)).trans (ha.block b hb)⟩
theorem zn (w:World):∀b,(Value.slice (some ⟨w.heap.size,0,none⟩) 0 0).ownBlock=some b→w.heap.size≤b:=by
 intro b hb
 simp[Value.ownBlock]at hb
 omega
theorem KD {w u:World} {o:Obj} {v:Value} {n:Nat} {xs:List Value} (h:u.ownsRow w.heap.size 5 1 v n xs) (ha:v.ownBlock=(Value.slice (some ⟨w.heap.size,0,none⟩) 0 0).ownBlock∨v.ownBlock=some (w.alloc o).heap.size):∀b,v.ownBlock=some b→w.heap.size≤b:=by
 intro b hb
 rcases ha with h1|h1
 ·exact zn w b (h1▸hb)
 ·rw[h1]at hb
  simp at hb
  omega
theorem xZ {u:World} {B:Nat} {v:Value} {n:Nat} {xs:List Value} (h:u.ownsRow B 5 1 v n xs) (o:Obj):(u.alloc o).ownsRow B 5 1 v n xs:=
 kQ h fun b _ hbw=>Below.heap_alloc u o b hbw
theorem Jv {w:World} {B:Nat} {e:TypeId} {v:Value} {n b:Nat} {xs:List Value} (h:w.ownsRow B e 1 v n xs) (hb:v.ownBlock=some b):B≤b:=by
 rcases h.2 with⟨h1,_⟩|⟨g,cap,cur,rfl,hg,_⟩
 ·subst h1
  simp[Value.ownBlock]at hb
 ·simp[Value.ownBlock]at hb
  omega
set_option maxHeartbeats 2000000 in
theorem uY {S:Nat→Prop} (a:Option Addr) (m c:Nat) (l:List UInt8) (n:Int) (w:World) (hr:aC S w a m (l.map bv)) (hm:m≤100000000) (hn0:0≤n) (hn:n≤1000000000):
  Calls Tryz.prog 147 #[.slice a m c, .int .i64 n] w (iV w (l++gU n 1)):=by
 obtain⟨i8,hi⟩:∃i,Tryz.prog.info? 5=some i∧i.zero=some (.int .u8 0)∧i.size=1∧i.bytes=1:=info_parts (by kernel_rfl)
 have HI:=Lib.hid hi
 have HR:=Lib.hid hr
 have hlm:l.length=m:=by simpa using hr.length
 clear hr hi
 go_enter Tryz.func147,Tryz.ntmps147
 have hbw:=qx hn0 0
 have e0:n/2^(8*((0:Nat):Int)).toNat=n:=by simp
 rw[e0]at hbw
 obtain⟨b0,hb0⟩:∃b0,b0=UInt8.ofNat ((n/2^(8*0)).toNat%256):=⟨_,rfl⟩
 rw[←hb0]at hbw
 have HB0:=Lib.hid hb0
 have GV:(w.alloc (.cells #[] 5)).ownsRow w.heap.size 5 1 (.slice (some ⟨w.heap.size,0,none⟩) 0 0) 0 []:=World.ownsRow_lit w #[] 0 (Nat.le_refl _) (by decide) rfl
 have Ym:aC S (w.alloc (.cells #[] 5)) a m (l.map bv):=HR.out.below (wall w _) (Nat.le_refl _)
 have VP:=Lib.hid GV
 have RL:=Lib.hid Ym
 have Ho:=Lib.hid (wall w (.cells #[] 5))
 have hzA:(w.alloc (.cells #[] 5)).heap.size=w.heap.size+1:=by simp
 clear GV Ym hb0
 go_wp2_with (at_builtin;go_loud (first|(refine bM rfl _ _ 39 rfl w.heap.size 5 i8 _ 1 Tryz.underlying39 HI.out.1 HI.out.2.1 HI.out.2.2.1 HI.out.2.2.2 rfl _ 0 [] rfl VP.out a m c (l.map bv) rfl RL.out (iw l) (by unfold maxLen;omega) (by omega) (by omega) ?_;intro A1 c1 u1 hown1 hg1 _ wh;simp only[Nat.zero_add,List.nil_append]at hown1 wh;have M9:=Lib.hid (ji hg1 (zn w) Ho.out);have hs1:=M9.out.size;have RN:=Lib.hid (ni (w:=u1) [bv b0] 5 (by unfold maxLen;simp));have XG:=Lib.hid (xZ hown1 (.cells #[bv b0] 5));have Bz:=Lib.hid (wall u1 (.cells #[bv b0] 5));have hzB:(u1.alloc (.cells #[.int .u8 b0.toNat] 5)).heap.size=u1.heap.size+1:=(by simp);have HLW:=Lib.hid (KD hown1 wh);clear hown1 hg1 wh;(try simp only[Nat.zero_add]))|(refine bM rfl _ _ 39 rfl w.heap.size 5 i8 _ 1 Tryz.underlying39 HI.out.1 HI.out.2.1 HI.out.2.2.1 HI.out.2.2.2 rfl _ m (l.map bv) rfl XG.out _ 1 1 [bv b0] rfl RN.out (iw [b0]) (by unfold maxLen;omega) (by omega) (by omega) ?_;intro A2 c2 u2 hown2 hg2 _ Bl;have HG2:=Lib.hid (ji hg2 HLW.out (M9.out.trans (Bz.out.mono M9.out.size)));have Ic:=Lib.hid hown2;clear hown2 hg2 Bl)))
 go_ret
 have e1:gU n 1=[b0]:=by rw[HB0.out];rfl
 rw[e1]
 refine⟨A2,c2,?_,?_,HG2.out⟩
 ·rw[List.length_append,hlm];rfl
 ·rw[List.length_append,hlm,List.map_append];exact Ic.out
set_option maxHeartbeats 2000000 in
theorem jL {S:Nat→Prop} (a:Option Addr) (m c:Nat) (l:List UInt8) (n:Int) (w:World) (hr:aC S w a m (l.map bv)) (hm:m≤100000000) (hn0:0≤n) (hn:n≤1000000000):
  Calls Tryz.prog 94 #[.slice a m c, .int .i64 n] w (iV w (l++gU n 2)):=by
 obtain⟨i8,hi⟩:∃i,Tryz.prog.info? 5=some i∧i.zero=some (.int .u8 0)∧i.size=1∧i.bytes=1:=info_parts (by kernel_rfl)
 have HI:=Lib.hid hi
 have HR:=Lib.hid hr
 have hlm:l.length=m:=by simpa using hr.length
 clear hr hi
 go_enter Tryz.func94,Tryz.ntmps94
 have hbw:=qx hn0 0
 have e0:n/2^(8*((0:Nat):Int)).toNat=n:=by simp
 rw[e0]at hbw
 have hbx:=qx hn0 1
 obtain⟨b0,hb0⟩:∃b0,b0=UInt8.ofNat ((n/2^(8*0)).toNat%256):=⟨_,rfl⟩
 rw[←hb0]at hbw
 have HB0:=Lib.hid hb0
 obtain⟨b1,hb1⟩:∃b1,b1=UInt8.ofNat ((n/2^(8*1)).toNat%256):=⟨_,rfl⟩
 have hby:n/256%256=((UInt8.ofNat ((n/2^(8*1)).toNat%256)).toNat:Int):=by
  rw[←hbx]
  have e9:(2:Int)^(8*((1:Nat):Int)).toNat=256:=by decide
  rw[e9]
  simp[IntKind.wrap,IntKind.signed,IntKind.bits]
 rw[←hb1]at hby
 clear hbx
 have HB1:=Lib.hid hb1
 have GV:(w.alloc (.cells #[] 5)).ownsRow w.heap.size 5 1 (.slice (some ⟨w.heap.size,0,none⟩) 0 0) 0 []:=World.ownsRow_lit w #[] 0 (Nat.le_refl _) (by decide) rfl
 have Ym:aC S (w.alloc (.cells #[] 5)) a m (l.map bv):=HR.out.below (wall w _) (Nat.le_refl _)
 have VP:=Lib.hid GV
 have RL:=Lib.hid Ym
 have Ho:=Lib.hid (wall w (.cells #[] 5))
 have hzA:(w.alloc (.cells #[] 5)).heap.size=w.heap.size+1:=by simp
 clear GV Ym hb0 hb1
 go_wp2_with (at_builtin;go_loud (first|(refine bM rfl _ _ 39 rfl w.heap.size 5 i8 _ 1 Tryz.underlying39 HI.out.1 HI.out.2.1 HI.out.2.2.1 HI.out.2.2.2 rfl _ 0 [] rfl VP.out a m c (l.map bv) rfl RL.out (iw l) (by unfold maxLen;omega) (by omega) (by omega) ?_;intro A1 c1 u1 hown1 hg1 _ wh;simp only[Nat.zero_add,List.nil_append]at hown1 wh;have M9:=Lib.hid (ji hg1 (zn w) Ho.out);have hs1:=M9.out.size;have RN:=Lib.hid (ni (w:=u1) [bv b1,bv b0] 5 (by unfold maxLen;simp));have XG:=Lib.hid (xZ hown1 (.cells #[bv b1,bv b0] 5));have Bz:=Lib.hid (wall u1 (.cells #[bv b1,bv b0] 5));have hzB:(u1.alloc (.cells #[.int .u8 b1.toNat, .int .u8 b0.toNat] 5)).heap.size=u1.heap.size+1:=(by simp);have HLW:=Lib.hid (KD hown1 wh);clear hown1 hg1 wh;(try simp only[Nat.zero_add]))|(refine bM rfl _ _ 39 rfl w.heap.size 5 i8 _ 1 Tryz.underlying39 HI.out.1 HI.out.2.1 HI.out.2.2.1 HI.out.2.2.2 rfl _ m (l.map bv) rfl XG.out _ 2 2 [bv b1,bv b0] rfl RN.out (iw [b1,b0]) (by unfold maxLen;omega) (by omega) (by omega) ?_;intro A2 c2 u2 hown2 hg2 _ Bl;have HG2:=Lib.hid (ji hg2 HLW.out (M9.out.trans (Bz.out.mono M9.out.size)));have Ic:=Lib.hid hown2;clear hown2 hg2 Bl)))
 go_ret
 have e1:gU n 2=[b1,b0]:=by rw[HB0.out,HB1.out];rfl
 rw[e1]
 refine⟨A2,c2,?_,?_,HG2.out⟩
 ·rw[List.length_append,hlm];rfl
 ·rw[List.length_append,hlm,List.map_append];exact Ic.out
set_option maxHeartbeats 2000000 in
theorem sZ {S S':Nat→Prop} (a:Option Addr) (m c:Nat) (l:List UInt8) (a':Option Addr) (m' c':Nat) (l':List UInt8) (w:World) (hr:aC S w a m (l.map bv)) (hr':aC S' w a' m' (l'.map bv)) (hm:m≤100000000) (hm':m'≤65535):
  Calls Tryz.prog 95 #[.slice a m c, .slice a' m' c'] w (iV w (l++(gU m' 2++l'))):=by
 obtain⟨i8,hi⟩:∃i,Tryz.prog.info? 5=some i∧i.zero=some (.int .u8 0)∧i.size=1∧i.bytes=1:=info_parts (by kernel_rfl)
 have HI:=Lib.hid hi
 have HS:=Lib.hid (jL a m c l (m':Int) w hr hm (by omega) (by omega))
 have HR:=Lib.hid hr'
 have hlm:l.length=m:=by simpa using hr.length
 have VG:l'.length=m':=by simpa using hr'.length
 have hg:decide ((65535:Int)<(m':Int))=false:=by simp;omega
 have hg2:decide ((65535:Nat)<m')=false:=by simp;omega
 obtain⟨q,hq⟩:∃q,q=l++gU (m':Int) 2:=⟨_,rfl⟩
 have HQ:=Lib.hid hq
 have WB:q.length=m+2:=by rw[hq,List.length_append,hlm];rfl
 rw[←hq]at HS
 clear hr hi hr' hq
 go_enter Tryz.func95,Tryz.ntmps95
 go_wp2_with fail
 (with_reducible refine HS.out.mono ?_)
 rintro e w1 ⟨a1,c1,rfl,hown1,hb1⟩
 have rP:=Lib.hid hown1
 have HB1:=Lib.hid hb1
 have HR1:=Lib.hid (HR.out.below hb1 (Nat.le_refl _))
 have hs1:=hb1.size
 clear hown1 hb1
 obtain⟨N,hN⟩:∃N,N=q.length:=⟨_,rfl⟩
 have hN8:N≤100000002:=by omega
 have HQL:=Lib.hid WB
 clear WB
 rw[←hN]at rP⊢
 have HN:=Lib.hid hN
 clear hN
 have HLO:Hid (∀b,(Value.slice a1 N c1).ownBlock=some b→w.heap.size≤b):=fun b hb=>Jv rP.out hb
 go_wp2_with (at_builtin;go_loud (refine bM rfl _ _ 39 rfl w.heap.size 5 i8 _ 1 Tryz.underlying39 HI.out.1 HI.out.2.1 HI.out.2.2.1 HI.out.2.2.2 rfl _ N (q.map bv) rfl rP.out a' m' c' (l'.map bv) rfl HR1.out (iw l') (by unfold maxLen;omega) (by omega) (by omega) ?_;intro A2 c2 u2 hown2 Yn _ Bl;have HG2:=Lib.hid (ji Yn HLO.out HB1.out);have Ic:=Lib.hid hown2;clear hown2 Yn Bl))
 go_ret
 have e1:l++(gU (m':Int) 2++l')=q++l':=by rw[HQ.out,List.append_assoc]
 have e2:(q++l').length=N+m':=by rw[List.length_append,VG,←HN.out]
 rw[e1]
 refine⟨A2,c2,?_,?_,HG2.out⟩
 ·rw[e2];rfl
 ·rw[e2,List.map_append];exact Ic.out
theorem Jw {S:Nat→Prop} (a:Option Addr) (m c:Nat) (l:List UInt8) (f:Bool) (w:World) (hr:aC S w a m (l.map bv)) (hm:m≤100000000):
  Calls Tryz.prog 148 #[.slice a m c, .bool f] w (iV w (l++oF f)):=by
 have H1:=Lib.hid (uY a m c l 1 w hr hm (by omega) (by omega))
 have H0:=Lib.hid (uY a m c l 0 w hr hm (by omega) (by omega))
 clear hr
 cases f with
 |true=>
  go_enter Tryz.func148,Tryz.ntmps148
  go_wp2_with fail
  (with_reducible refine H1.out.mono ?_)
  rintro e w1 ⟨a1,c1,rfl,hown1,hb1⟩
  go_wp2_with fail
  go_ret
  exact⟨a1,c1,(by rw[List.length_append];rfl),hown1,hb1⟩
 |false=>
  go_enter Tryz.func148,Tryz.ntmps148
  go_wp2_with fail
  (with_reducible refine H0.out.mono ?_)
  rintro e w1 ⟨a1,c1,rfl,hown1,hb1⟩
  go_wp2_with fail
  go_ret
  exact⟨a1,c1,(by rw[List.length_append];rfl),hown1,hb1⟩
set_option maxHeartbeats 4000000 in
theorem Jy {S:Nat→Prop} (a:Option Addr) (m c:Nat) (l:List UInt8) (n:Int) (w:World) (hr:aC S w a m (l.map bv)) (hm:m≤100000000) (hn0:0≤n) (hn:n≤18446744073709551615):
  Calls Tryz.prog 149 #[.slice a m c, .int .u64 n] w (iV w (l++gU n 8)):=by
 obtain⟨i8,hi⟩:∃i,Tryz.prog.info? 5=some i∧i.zero=some (.int .u8 0)∧i.size=1∧i.bytes=1:=info_parts (by kernel_rfl)
 have HI:=Lib.hid hi
 have hlm:l.length=m:=by simpa using hr.length
 have YT:=Lib.hid hlm
 have VP:=Lib.hid (show(w.alloc (.cells #[] 5)).ownsRow w.heap.size 5 1 (.slice (some ⟨w.heap.size,0,none⟩) 0 0) 0 []from World.ownsRow_lit w #[] 0 (Nat.le_refl _) (by decide) rfl)
 have RL:Hid (aC S (w.alloc (.cells #[] 5)) a m (l.map bv)):=hr.below (wall w _) (Nat.le_refl _)
 have Ho:=Lib.hid (wall w (.cells #[] 5))
 have hzA:(w.alloc (.cells #[] 5)).heap.size=w.heap.size+1:=by simp
 clear hr hi hlm
 go_enter Tryz.func149,Tryz.ntmps149
 go_wp2_with (at_builtin;go_loud (refine bM rfl _ _ 39 rfl w.heap.size 5 i8 _ 1 Tryz.underlying39 HI.out.1 HI.out.2.1 HI.out.2.2.1 HI.out.2.2.2 rfl _ 0 [] rfl VP.out a m c (l.map bv) rfl RL.out (iw l) (by unfold maxLen;omega) (by omega) (by omega) ?_;intro A1 c1 u1 hown1 hg1 _ wh;simp only[Nat.zero_add,List.nil_append]at hown1 wh;have M9:=Lib.hid (ji hg1 (zn w) Ho.out);have rP:=Lib.hid hown1;clear hown1 hg1 wh;(try simp only[Nat.zero_add])))
 go_loopw [5,6] (fun ov iv wr=>∃(k:Nat) (dn:List UInt8) (a1:Option Addr) (c1:Nat),k≤8∧iv= .int .i64 (8*(k:Int)-8)∧dn++gU n k=gU n 8∧dn.length+k=8∧ov= .slice a1 (m+dn.length) c1∧wr.ownsRow w.heap.size 5 1 (.slice a1 (m+dn.length) c1) (m+dn.length) ((l++dn).map bv)∧Below w.heap.size w wr) (fun _ iv _=>((intOf iv)+8).toNat)
 case atStart=>exact⟨8,[],A1,c1,by omega,rfl,rfl,rfl,rfl,by simpa using rP.out,M9.out⟩
 case round=>
  obtain⟨k,dn,a1,c1,hk,rfl,hdn,hdl,rfl,hown,hB⟩:=hrel
  have Bv:=Lib.hid hdn
  have HO:=Lib.hid hown
  have HB:=Lib.hid hB
  have G_:=hB.size
  clear hdn hown hB
  cases k with
  |zero=>
   have e0:8*((0:Nat):Int)-8= -8:=by omega
   rw[e0]
   have P7:Hid (dn.length=8):=Lib.hid (by omega)
   clear hdl
   go_wp2_with fail
   go_ret
   have h9:dn++[]=gU n 8:=Bv.out
   rw[List.append_nil]at h9
   refine⟨a1,c1,?_,?_,HB.out⟩
   ·rw[←h9,List.length_append,YT.out];rfl
   ·rw[←h9,List.length_append,YT.out];exact HO.out
  |succ k=>
   have hk0:(0:Int)≤k:=by omega
   have e1:8*((k+1:Nat):Int)-8=8*(k:Int):=by omega
   rw[e1]
   have hge:decide ((0:Int)≤8*(k:Int))=true:=by simp;omega
   have hbw:n/2^(8*k)%256=((UInt8.ofNat ((n/2^(8*k)).toNat%256)).toNat:Int):=by
    rw[←qx hn0 k,show(8*(k:Int)).toNat=8*k by omega]
    simp[IntKind.wrap,IntKind.signed,IntKind.bits]
   obtain⟨b0,hb0⟩:∃b0,b0=UInt8.ofNat ((n/2^(8*k)).toNat%256):=⟨_,rfl⟩
   rw[←hb0]at hbw
   have HB0:=Lib.hid hb0
   obtain⟨N,hN⟩:∃N,N=m+dn.length:=⟨_,rfl⟩
   have Zo:N≤100000008:=by omega
   rw[←hN]at HO⊢
   have rC:=Lib.hid hN
   have EG:=Lib.hid hdl
   have Hl:Below wr.heap.size wr (wr.alloc (.cells #[bv b0] 5)):=wall wr _
   have HOW:=Lib.hid (xZ HO.out (.cells #[bv b0] 5))
   have HLO:Hid (∀b,(Value.slice a1 N c1).ownBlock=some b→w.heap.size≤b):=fun b hb=>Jv HO.out hb
   have Bz:=Lib.hid (HB.out.trans (Hl.mono G_))
   clear hb0 hN hdl Hl
   go_wp2_with (at_builtin;go_loud (refine bM rfl _ _ 39 rfl w.heap.size 5 i8 _ 1 Tryz.underlying39 HI.out.1 HI.out.2.1 HI.out.2.2.1 HI.out.2.2.2 rfl _ N ((l++dn).map bv) rfl HOW.out (some ⟨wr.heap.size,0,none⟩) 1 1 [bv b0] rfl (ng (bv b0) 5) (by simp[bv,Value.oneCell']) (by unfold maxLen;omega) (by omega) (by simp;omega) ?_;intro A2 c2 u2 hown2 hg2 _ Bl;have HG2:=Lib.hid (ji hg2 HLO.out Bz.out);have Ic:=Lib.hid hown2;clear hown2 hg2 Bl))
   go_roundw
   case rel=>
    refine⟨k,dn++[b0],A2,c2,by omega,by go_num,?_,by have:=EG.out;simp;omega,?_,?_,HG2.out⟩
    ·rw[List.append_assoc,←Bv.out,HB0.out]
     rfl
    ·rw[List.length_append,←Nat.add_assoc,←rC.out];rfl
    ·rw[List.length_append,←Nat.add_assoc,←rC.out,←List.append_assoc,List.map_append]
     exact Ic.out
   case measure=>simp[intOf];omega
theorem uZ {w:World} {B B':Nat} {e:TypeId} {k:Nat} {v:Value} {n:Nat} {xs:List Value} (h:w.ownsRow B' e k v n xs) (hb:B≤B'):w.ownsRow B e k v n xs:=by
 obtain⟨h1,h2⟩:=h
 refine⟨h1,h2.imp id ?_⟩
 rintro ⟨g,cap,cur,e1,e2,e3⟩
 exact⟨g,cap,cur,e1,Nat.le_trans hb e2,e3⟩
theorem iy {w:World} {B:Nat} {a:Option Addr} {c:Nat} {bs:List UInt8} (h:w.ownsRow B 5 1 (.slice a bs.length c) bs.length (bs.map bv)):aC (fun x=>B≤x∧x<w.heap.size) w a bs.length (bs.map bv):=(aC.mM h).2
theorem Sn (k:Int) (x:bW):pR k x=(((((gU k 2++gU x.kind 1)++gU x.links 2)++gU x.b.length 2)++gU x.aQ 8)++oF x.closed):=rfl
set_option maxHeartbeats 4000000 in
theorem Jz (k:Int) (x:bW) (h1:JI x) (hk:0≤k) (hk':k≤65535) (w:World):Calls Tryz.prog 96 #[jE k x] w (iV w (pR k x)):=by
 obtain⟨l0,l1⟩:=h1.links
 obtain⟨t0,t1⟩:=h1.aQ
 have hb:=h1.size
 have hkd:0≤x.kind∧x.kind≤2:=by rcases h1.kind with h|h<;>omega
 obtain⟨kd0,kd1⟩:=hkd
 rw[Sn]
 obtain⟨n,hn⟩:∃n:Nat,n=x.b.length:=⟨_,rfl⟩
 rw[←hn]at hb
 unfold jE
 rw[←hn]
 clear h1 hn
 obtain⟨L1,hL1⟩:∃L,L=gU k 2:=⟨_,rfl⟩
 have hl1:L1.length=2:=by rw[hL1];rfl
 have mQ:Hid (∀w':World,Calls Tryz.prog 94 #[.slice none 0 0, .int .i64 k] w' (iV w' L1)):=fun w'=>by rw[hL1];exact jL (S:=fun _=>True) none 0 0 [] k w' (aC.nil _ _ _) (by omega) hk (by omega)
 obtain⟨L2,hL2⟩:∃L,L=L1++gU x.kind 1:=⟨_,rfl⟩
 have hl2:L2.length=3:=by rw[hL2,List.length_append,hl1];rfl
 have HS2:Hid (∀(B:Nat) (w':World) (a:Option Addr) (c:Nat),w'.ownsRow B 5 1 (.slice a L1.length c) L1.length (L1.map bv)→Calls Tryz.prog 147 #[.slice a L1.length c, .int .i64 x.kind] w' (iV w' L2)):=fun B w' a c h=>by rw[hL2];exact uY a _ c _ x.kind w' (iy h) (by omega) kd0 (by omega)
 obtain⟨L3,hL3⟩:∃L,L=L2++gU x.links 2:=⟨_,rfl⟩
 have hl3:L3.length=5:=by rw[hL3,List.length_append,hl2];rfl
 have P5:Hid (∀(B:Nat) (w':World) (a:Option Addr) (c:Nat),w'.ownsRow B 5 1 (.slice a L2.length c) L2.length (L2.map bv)→Calls Tryz.prog 94 #[.slice a L2.length c, .int .i64 x.links] w' (iV w' L3)):=fun B w' a c h=>by rw[hL3];exact jL a _ c _ x.links w' (iy h) (by omega) l0 (by omega)
 obtain⟨L4,hL4⟩:∃L,L=L3++gU (n:Int) 2:=⟨_,rfl⟩
 have hl4:L4.length=7:=by rw[hL4,List.length_append,hl3];rfl
 have M8:Hid (∀(B:Nat) (w':World) (a:Option Addr) (c:Nat),w'.ownsRow B 5 1 (.slice a L3.length c) L3.length (L3.map bv)→Calls Tryz.prog 94 #[.slice a L3.length c, .int .i64 (n:Int)] w' (iV w' L4)):=fun B w' a c h=>by rw[hL4];exact jL a _ c _ (n:Int) w' (iy h) (by omega) (by omega) (by omega)
 obtain⟨L5,hL5⟩:∃L,L=L4++gU x.aQ 8:=⟨_,rfl⟩
 have hl5:L5.length=15:=by rw[hL5,List.length_append,hl4];rfl
 have S9:Hid (∀(B:Nat) (w':World) (a:Option Addr) (c:Nat),w'.ownsRow B 5 1 (.slice a L4.length c) L4.length (L4.map bv)→Calls Tryz.prog 149 #[.slice a L4.length c, .int .u64 x.aQ] w' (iV w' L5)):=fun B w' a c h=>by rw[hL5];exact Jy a _ c _ x.aQ w' (iy h) (by omega) t0 (by omega)
 obtain⟨L6,hL6⟩:∃L,L=L5++oF x.closed:=⟨_,rfl⟩
 have hl6:L6.length=16:=by rw[hL6,List.length_append,hl5];rfl
 have kG:Hid (∀(B:Nat) (w':World) (a:Option Addr) (c:Nat),w'.ownsRow B 5 1 (.slice a L5.length c) L5.length (L5.map bv)→Calls Tryz.prog 148 #[.slice a L5.length c, .bool x.closed] w' (iV w' L6)):=fun B w' a c h=>by rw[hL6];exact Jw a _ c _ x.closed w' (iy h) (by omega)
 rw[←hL1,←hL2,←hL3,←hL4,←hL5,←hL6]
 clear hL6 hL5 hL4 hL3 hL2 hL1
 clear hl1 hl2 hl3 hl4 hl5 hl6
 have HQ:Hid (∀w',Below (w.alloc (.cells #[.int .i64 k, .int .i64 x.kind, .int .i64 x.links, .int .i64 (n:Int), .int .u64 x.aQ, .bool x.closed] 90)).heap.size (w.alloc (.cells #[.int .i64 k, .int .i64 x.kind, .int .i64 x.links, .int .i64 (n:Int), .int .u64 x.aQ, .bool x.closed] 90)) w'→∀j,w'.cell? ⟨w.heap.size,j,none⟩=(#[.int .i64 k, .int .i64 x.kind, .int .i64 x.links, .int .i64 (n:Int), .int .u64 x.aQ, .bool x.closed]:Array Value)[j]?):=fun w' hb j=>by
  rw[hb.cell (p:=⟨w.heap.size,j,none⟩) (by simp)]
  exact gq (MapKept.heap_alloc w _).1 j
 have Ho:=Lib.hid (wall w (.cells #[.int .i64 k, .int .i64 x.kind, .int .i64 x.links, .int .i64 (n:Int), .int .u64 x.aQ, .bool x.closed] 90))
 go_enter Tryz.func96,Tryz.ntmps96
 go_wp2_with fail
 generalize (w.alloc (.cells #[.int .i64 k, .int .i64 x.kind, .int .i64 x.links, .int .i64 (n:Int), .int .u64 x.aQ, .bool x.closed] 90))=wa at*
 have hza:=Ho.out.size
 refine wp_region_noPanic ?_
 refine wp_region_held_drew (S:=(fun w'=>w'.cell? ⟨w.heap.size,0,none⟩=some (.int .i64 k)∧w'.cell? ⟨w.heap.size,1,none⟩=some (.int .i64 x.kind)∧w'.cell? ⟨w.heap.size,2,none⟩=some (.int .i64 x.links))) (by kernel_rfl) ?_ (fun hS=> ?_)
 ·exact⟨HQ.out _ (Below.refl _ _).drew 0,HQ.out _ (Below.refl _ _).drew 1,HQ.out _ (Below.refl _ _).drew 2⟩
 refine aV 0 (hS:=hS) (h:= ?_)
 refine aV 1 (hS:=hS) (h:= ?_)
 refine aV 3 (hS:=hS) (h:= ?_)
 refine aV 4 (hS:=hS) (h:= ?_)
 refine aV 6 (hS:=hS) (h:= ?_)
 refine aV 7 (hS:=hS) (h:= ?_)
 refine lJ 2 (h:=fun K hK=> ?_)
 go_simp
 (with_reducible refine(mQ.out _).mono ?_)
 rintro e w1 ⟨a1,c1,rfl,hown1,hb1'⟩
 have hb1:Below wa.heap.size wa w1:=(Below.refl _ _).drew.trans hb1'
 go_simp
 refine hK.out _ _ (⟨HQ.out _ hb1 0,HQ.out _ hb1 1,HQ.out _ hb1 2⟩) (fun hS=> ?_)
 clear hK K
 try simp only[Act.put,List.setIfInBounds_toArray,List.set_cons_zero,List.set_cons_succ]
 refine lJ 5 (h:=fun K hK=> ?_)
 go_simp
 (with_reducible refine(HS2.out _ _ _ _ hown1).mono ?_)
 rintro e w2 ⟨a2,c2,rfl,hown2,hb2'⟩
 have hb2:Below wa.heap.size wa w2:=hb1.trans (hb2'.mono hb1.size)
 go_simp
 refine hK.out _ _ (⟨HQ.out _ hb2 0,HQ.out _ hb2 1,HQ.out _ hb2 2⟩) (fun hS=> ?_)
 clear hK K
 try simp only[Act.put,List.setIfInBounds_toArray,List.set_cons_zero,List.set_cons_succ]
 refine lJ 8 (h:=fun K hK=> ?_)
 go_simp
 (with_reducible refine(P5.out _ _ _ _ hown2).mono ?_)
 rintro e w3 ⟨a3,c3,rfl,hown3,Uu⟩
 have hb3:Below wa.heap.size wa w3:=hb2.trans (Uu.mono hb2.size)
 go_simp
 refine hK.out _ _ (⟨HQ.out _ hb3 0,HQ.out _ hb3 1,HQ.out _ hb3 2⟩) (fun hS=> ?_)
 clear hK K
 try simp only[Act.put,List.setIfInBounds_toArray,List.set_cons_zero,List.set_cons_succ]
 refine lJ 9 (h:=fun K hK=> ?_)
 go_simp
 refine hK.out _ _ (⟨HQ.out _ hb3 0,HQ.out _ hb3 1,HQ.out _ hb3 2⟩) (fun hS=> ?_)
 clear hK K
 try simp only[Act.put,List.setIfInBounds_toArray,List.set_cons_zero,List.set_cons_succ]
 refine wpAnyH_done (by kernel_rfl) ?_ _
 refine NoPanic.normal ?_
 go_wp2_with fail
 have VQ:w3.drew.ownsRow w2.heap.size 5 1 (.slice a3 L3.length c3) L3.length (L3.map bv):=hown3
 refine wp_region_noPanic ?_
 refine wp_region_held_drew (S:=(fun w'=>w'.cell? ⟨w.heap.size,3,none⟩=some (.int .i64 (n:Int))∧w'.cell? ⟨w.heap.size,4,none⟩=some (.int .u64 x.aQ)∧w'.cell? ⟨w.heap.size,5,none⟩=some (.bool x.closed))) (by kernel_rfl) ?_ (fun hS=> ?_)
 ·exact⟨HQ.out _ hb3.drew 3,HQ.out _ hb3.drew 4,HQ.out _ hb3.drew 5⟩
 refine aV 0 (hS:=hS) (h:= ?_)
 refine aV 1 (hS:=hS) (h:= ?_)
 refine aV 2 (hS:=hS) (h:= ?_)
 refine aV 4 (hS:=hS) (h:= ?_)
 refine aV 5 (hS:=hS) (h:= ?_)
 refine aV 7 (hS:=hS) (h:= ?_)
 refine aV 8 (hS:=hS) (h:= ?_)
 refine lJ 3 (h:=fun K hK=> ?_)
 go_simp
 (with_reducible refine(M8.out _ _ _ _ VQ).mono ?_)
 rintro e w4 ⟨a4,c4,rfl,KE,GX⟩
 have hb4:Below wa.heap.size wa w4:=hb3.drew.trans (GX.mono hb3.size)
 go_simp
 refine hK.out _ _ (⟨HQ.out _ hb4 3,HQ.out _ hb4 4,HQ.out _ hb4 5⟩) (fun hS=> ?_)
 clear hK K
 try simp only[Act.put,List.setIfInBounds_toArray,List.set_cons_zero,List.set_cons_succ]
 refine lJ 6 (h:=fun K hK=> ?_)
 go_simp
 (with_reducible refine(S9.out _ _ _ _ KE).mono ?_)
 rintro e w5 ⟨a5,c5,rfl,hown5,Sq⟩
 have hb5:Below wa.heap.size wa w5:=hb4.trans (Sq.mono hb4.size)
 go_simp
 refine hK.out _ _ (⟨HQ.out _ hb5 3,HQ.out _ hb5 4,HQ.out _ hb5 5⟩) (fun hS=> ?_)
 clear hK K
 try simp only[Act.put,List.setIfInBounds_toArray,List.set_cons_zero,List.set_cons_succ]
 refine lJ 9 (h:=fun K hK=> ?_)
 go_simp
 (with_reducible refine(kG.out _ _ _ _ hown5).mono ?_)
 rintro e w6 ⟨a6,c6,rfl,hown6,Sr⟩
 have hb6:Below wa.heap.size wa w6:=hb5.trans (Sr.mono hb5.size)
 go_simp
 refine hK.out _ _ (⟨HQ.out _ hb6 3,HQ.out _ hb6 4,HQ.out _ hb6 5⟩) (fun hS=> ?_)
 clear hK K
 try simp only[Act.put,List.setIfInBounds_toArray,List.set_cons_zero,List.set_cons_succ]
 refine lJ 10 (h:=fun K hK=> ?_)
 go_simp
 refine hK.out _ _ (⟨HQ.out _ hb6 3,HQ.out _ hb6 4,HQ.out _ hb6 5⟩) (fun hS=> ?_)
 clear hK K
 try simp only[Act.put,List.setIfInBounds_toArray,List.set_cons_zero,List.set_cons_succ]
 refine wpAnyH_done (by kernel_rfl) ?_ _
 refine NoPanic.normal ?_
 go_wp2_with fail
 go_ret
 exact⟨a6,c6,rfl,uZ hown6 (by have:=hb5.size;have:=Ho.out.size;omega),Ho.out.trans (hb6.mono Ho.out.size)⟩
end Go.Proofs.YtmabllemjkcobaaGreat
