/- permafrostref4 -/
import Derived.Test.YtjnhnlabpccgjaaGreatDoorM13
import Derived.Test.YtjnhnlabpccgjaaGreatDoorM16
import Derived.Test.YtjnhnlabpccgjaaGreatDoorM31
import Derived.Test.YtjnhnlabpccgjaaGreatDoorM21
import Derived.Test.YtjnhnlabpccgjaaGreatDoorM25
import Derived.Test.YtjnhnlabpccgjaaGreatDoorM30
import Derived.Test.YtjnhnlabpccgjaaGreatDoorM24
import Derived.Test.YtjnhnlabpccgjaaGreatDoorM20
import Derived.Laws.BitsAllLaws
set_option maxRecDepth 100000
set_option maxHeartbeats 64000000
set_option linter.all false
namespace Go.Proofs.YtjnhnlabpccgjaaGreatDoor
open Go.ChangeShapes Go.WideShapes Go.ChangeAt Go.RowKit
theorem dK{w wa u:World}{own:Option Nat}(hg:wa.grownBy u own)(ho:∀b,own=some b→w.heap.size≤b)(ha:Below w.heap.size w wa):Below w.heap.size w u:=
 ⟨hg.os.trans ha.os,hg.tape.trans ha.tape,hg.output.trans ha.output,aax ha.size hg.size,fun b hb=>(hg.block b (Nat.lt_of_lt_of_le hb ha.size) (fun e=>by have:=ho b e.symm;omega)).trans (ha.block b hb)⟩
theorem tY(w:World):∀b,(Value.slice (some ⟨w.heap.size,0,none⟩) 0 0).ownBlock=some b→w.heap.size≤b:=by
 intro b hb;simp[Value.ownBlock]at hb;omega
theorem Ec{w u:World}{o:Obj}{v:Value}{n:Nat}{xs:List Value}(h:u.ownsRow w.heap.size 5 1 v n xs)(ha:v.ownBlock=(Value.slice (some ⟨w.heap.size,0,none⟩) 0 0).ownBlock∨v.ownBlock=some (w.alloc o).heap.size):∀b,v.ownBlock=some b→w.heap.size≤b:=by
 intro b hb;rcases ha with h1|h1
 ·exact tY w b (h1▸hb)
 ·rw[h1]at hb;simp at hb;omega
theorem wL{u:World}{B:Nat}{v:Value}{n:Nat}{xs:List Value}(h:u.ownsRow B 5 1 v n xs)(o:Obj):(u.alloc o).ownsRow B 5 1 v n xs:=
 fG h fun b _ hbw=>abr u o b hbw
theorem M7{w:World}{B:Nat}{e:TypeId}{v:Value}{n b:Nat}{xs:List Value}(h:w.ownsRow B e 1 v n xs)(hb:v.ownBlock=some b):B≤b:=by
 rcases h.2 with⟨h1,_⟩|⟨g,cap,cur,rfl,hg,_⟩
 ·subst h1;simp[Value.ownBlock]at hb
 ·simp[Value.ownBlock]at hb;omega
theorem tZ{S:Nat→Prop}(a:Option Addr)(m c:Nat)(l:List UInt8)(n:Int)(w:World)(hr:ah S w a m (l.map bv))(hm:m≤100000000)(hn0:0≤n)(hn:n≤1000000000):
  Calls Tryz.prog 98 #[.slice a m c,.int .i64 n] w (fB w (l++eB n 1)):=by
 obtain⟨i8,hi⟩:∃i,Tryz.prog.info? 5=some i∧i.zero=some (.int .u8 0)∧i.size=1∧i.bytes=1:=aam (by kernel_rfl);have HI:=acr hi;have HR:=acr hr;have hlm:l.length=m:=by simpa using hr.length
 clear hr hi;go_enter Tryz.func98,Tryz.ntmps98;have hbw:=pK hn0 0;have e0:n/2^(8*((0:Nat):Int)).toNat=n:=by simp
 rw[e0]at hbw;obtain⟨b0,hb0⟩:∃b0,b0=UInt8.ofNat ((n/2^(8*0)).toNat%256):=⟨_,rfl⟩;rw[←hb0]at hbw;have HB0:=acr hb0;have Kh:(w.alloc (.cells #[] 5)).ownsRow w.heap.size 5 1 (.slice (some ⟨w.heap.size,0,none⟩) 0 0) 0 []:=World.ownsRow_lit w #[] 0 acu (by decide) rfl;have hrA:ah S (w.alloc (.cells #[] 5)) a m (l.map bv):=HR.o.below (wall w _) acu;have Yj:=acr Kh;have Yk:=acr hrA;have Bu:=acr (wall w (.cells #[] 5));have ZX:(w.alloc (.cells #[] 5)).heap.size=w.heap.size+1:=by simp
 clear Kh hrA hb0;go_wp2_with (at_builtin;go_loud (first|(refine aQ rfl _ _ 28 rfl w.heap.size 5 i8 _ 1 Tryz.underlying28 HI.o.1 HI.o.2.1 HI.o.2.2.1 HI.o.2.2.2 rfl _ 0 [] rfl Yj.o a m c (l.map bv) rfl Yk.o (dV l) (by unfold maxLen;omega) (by omega) (by omega) ?_;intro A1 c1 u1 hown1 hg1 _ uQ;simp only[Nat.zero_add,List.nil_append]at hown1 uQ;have G6:=acr (dK hg1 (tY w) Bu.o);have hs1:=G6.o.size;have Ki:=acr (lH (w:=u1) [bv b0] 5 (by unfold maxLen;simp));have HOB:=acr (wL hown1 (.cells #[bv b0] 5));have EO:=acr (wall u1 (.cells #[bv b0] 5));have hzB:(u1.alloc (.cells #[.int .u8 b0.toNat] 5)).heap.size=u1.heap.size+1:=(by simp);have HLW:=acr (Ec hown1 uQ);clear hown1 hg1 uQ;(try simp only[Nat.zero_add]))|(refine aQ rfl _ _ 28 rfl w.heap.size 5 i8 _ 1 Tryz.underlying28 HI.o.1 HI.o.2.1 HI.o.2.2.1 HI.o.2.2.2 rfl _ m (l.map bv) rfl HOB.o _ 1 1 [bv b0] rfl Ki.o (dV [b0]) (by unfold maxLen;omega) (by omega) (by omega) ?_;intro A2 c2 u2 hown2 hg2 _ Ie;have HG2:=acr (dK hg2 HLW.o (G6.o.trans (EO.o.mono G6.o.size)));have E8:=acr hown2;clear hown2 hg2 Ie)));go_ret;have e1:eB n 1=[b0]:=by rw[HB0.o];rfl
 rw[e1];refine⟨A2,c2,?_,?_,HG2.o⟩
 ·rw[List.length_append,hlm];rfl
 ·rw[List.length_append,hlm,List.map_append];exact E8.o
theorem kI{S:Nat→Prop}(a:Option Addr)(m c:Nat)(l:List UInt8)(n:Int)(w:World)(hr:ah S w a m (l.map bv))(hm:m≤100000000)(hn0:0≤n)(hn:n≤1000000000):
  Calls Tryz.prog 94 #[.slice a m c,.int .i64 n] w (fB w (l++eB n 2)):=by
 obtain⟨i8,hi⟩:∃i,Tryz.prog.info? 5=some i∧i.zero=some (.int .u8 0)∧i.size=1∧i.bytes=1:=aam (by kernel_rfl);have HI:=acr hi;have HR:=acr hr;have hlm:l.length=m:=by simpa using hr.length
 clear hr hi;go_enter Tryz.func94,Tryz.ntmps94;have hbw:=pK hn0 0;have e0:n/2^(8*((0:Nat):Int)).toNat=n:=by simp
 rw[e0]at hbw;have hbx:=pK hn0 1;obtain⟨b0,hb0⟩:∃b0,b0=UInt8.ofNat ((n/2^(8*0)).toNat%256):=⟨_,rfl⟩;rw[←hb0]at hbw;have HB0:=acr hb0;obtain⟨b1,hb1⟩:∃b1,b1=UInt8.ofNat ((n/2^(8*1)).toNat%256):=⟨_,rfl⟩;have hby:n/256%256=((UInt8.ofNat ((n/2^(8*1)).toNat%256)).toNat:Int):=by
  rw[←hbx];have e9:(2:Int)^(8*((1:Nat):Int)).toNat=256:=by decide
  rw[e9];simp[IntKind.wrap,IntKind.signed,IntKind.bits]
 rw[←hb1]at hby;clear hbx;have HB1:=acr hb1;have Kh:(w.alloc (.cells #[] 5)).ownsRow w.heap.size 5 1 (.slice (some ⟨w.heap.size,0,none⟩) 0 0) 0 []:=World.ownsRow_lit w #[] 0 acu (by decide) rfl;have hrA:ah S (w.alloc (.cells #[] 5)) a m (l.map bv):=HR.o.below (wall w _) acu;have Yj:=acr Kh;have Yk:=acr hrA;have Bu:=acr (wall w (.cells #[] 5));have ZX:(w.alloc (.cells #[] 5)).heap.size=w.heap.size+1:=by simp
 clear Kh hrA hb0 hb1;go_wp2_with (at_builtin;go_loud (first|(refine aQ rfl _ _ 28 rfl w.heap.size 5 i8 _ 1 Tryz.underlying28 HI.o.1 HI.o.2.1 HI.o.2.2.1 HI.o.2.2.2 rfl _ 0 [] rfl Yj.o a m c (l.map bv) rfl Yk.o (dV l) (by unfold maxLen;omega) (by omega) (by omega) ?_;intro A1 c1 u1 hown1 hg1 _ uQ;simp only[Nat.zero_add,List.nil_append]at hown1 uQ;have G6:=acr (dK hg1 (tY w) Bu.o);have hs1:=G6.o.size;have Ki:=acr (lH (w:=u1) [bv b1,bv b0] 5 (by unfold maxLen;simp));have HOB:=acr (wL hown1 (.cells #[bv b1,bv b0] 5));have EO:=acr (wall u1 (.cells #[bv b1,bv b0] 5));have hzB:(u1.alloc (.cells #[.int .u8 b1.toNat,.int .u8 b0.toNat] 5)).heap.size=u1.heap.size+1:=(by simp);have HLW:=acr (Ec hown1 uQ);clear hown1 hg1 uQ;(try simp only[Nat.zero_add]))|(refine aQ rfl _ _ 28 rfl w.heap.size 5 i8 _ 1 Tryz.underlying28 HI.o.1 HI.o.2.1 HI.o.2.2.1 HI.o.2.2.2 rfl _ m (l.map bv) rfl HOB.o _ 2 2 [bv b1,bv b0] rfl Ki.o (dV [b1,b0]) (by unfold maxLen;omega) (by omega) (by omega) ?_;intro A2 c2 u2 hown2 hg2 _ Ie;have HG2:=acr (dK hg2 HLW.o (G6.o.trans (EO.o.mono G6.o.size)));have E8:=acr hown2;clear hown2 hg2 Ie)));go_ret;have e1:eB n 2=[b1,b0]:=by rw[HB0.o,HB1.o];rfl
 rw[e1];refine⟨A2,c2,?_,?_,HG2.o⟩
 ·rw[List.length_append,hlm];rfl
 ·rw[List.length_append,hlm,List.map_append];exact E8.o
theorem oh{S S':Nat→Prop}(a:Option Addr)(m c:Nat)(l:List UInt8)(a':Option Addr)(m' c':Nat)(l':List UInt8)(w:World)(hr:ah S w a m (l.map bv))(hr':ah S' w a' m' (l'.map bv))(hm:m≤100000000)(hm':m'≤65535):
  Calls Tryz.prog 95 #[.slice a m c,.slice a' m' c'] w (fB w (l++(eB m' 2++l'))):=by
 obtain⟨i8,hi⟩:∃i,Tryz.prog.info? 5=some i∧i.zero=some (.int .u8 0)∧i.size=1∧i.bytes=1:=aam (by kernel_rfl);have HI:=acr hi;have HS:=acr (kI a m c l (m':Int) w hr hm (by omega) (by omega));have HR:=acr hr';have hlm:l.length=m:=by simpa using hr.length
 have hlm':l'.length=m':=by simpa using hr'.length
 have hg:decide ((65535:Int)<(m':Int))=false:=by simp;omega
 have hg2:decide ((65535:Nat)<m')=false:=by simp;omega
 obtain⟨q,hq⟩:∃q,q=l++eB (m':Int) 2:=⟨_,rfl⟩;have HQ:=acr hq;have hql:q.length=m+2:=by rw[hq,List.length_append,hlm];rfl
 rw[←hq]at HS;clear hr hi hr' hq;go_enter Tryz.func95,Tryz.ntmps95;go_wp2_with fail;refine HS.o.mono ?_;rintro e w1 ⟨a1,c1,rfl,hown1,hb1⟩;have wI:=acr hown1;have HB1:=acr hb1;have HR1:=acr (HR.o.below hb1 acu);have hs1:=hb1.size;clear hown1 hb1;obtain⟨N,hN⟩:∃N,N=q.length:=⟨_,rfl⟩;have hN8:N≤100000002:=by omega
 have HQL:=acr hql;clear hql;rw[←hN]at wI⊢;have HN:=acr hN;clear hN;have HLO:acs (∀b,(Value.slice a1 N c1).ownBlock=some b→w.heap.size≤b):=fun b hb=>M7 wI.o hb;go_wp2_with (at_builtin;go_loud (refine aQ rfl _ _ 28 rfl w.heap.size 5 i8 _ 1 Tryz.underlying28 HI.o.1 HI.o.2.1 HI.o.2.2.1 HI.o.2.2.2 rfl _ N (q.map bv) rfl wI.o a' m' c' (l'.map bv) rfl HR1.o (dV l') (by unfold maxLen;omega) (by omega) (by omega) ?_;intro A2 c2 u2 hown2 hg2' _ Ie;have HG2:=acr (dK hg2' HLO.o HB1.o);have E8:=acr hown2;clear hown2 hg2' Ie));go_ret;have e1:l++(eB (m':Int) 2++l')=q++l':=by rw[HQ.o,TK]
 have e2:(q++l').length=N+m':=by rw[List.length_append,hlm',←HN.o]
 rw[e1];refine⟨A2,c2,?_,?_,HG2.o⟩
 ·rw[e2];rfl
 ·rw[e2,List.map_append];exact E8.o
theorem M8{S:Nat→Prop}(a:Option Addr)(m c:Nat)(l:List UInt8)(f:Bool)(w:World)(hr:ah S w a m (l.map bv))(hm:m≤100000000):
  Calls Tryz.prog 172 #[.slice a m c,.bool f] w (fB w (l++ql f)):=by
 have H1:=acr (tZ a m c l 1 w hr hm (by omega) (by omega));have H0:=acr (tZ a m c l 0 w hr hm (by omega) (by omega));clear hr;cases f with
 |true=>
  go_enter Tryz.func172,Tryz.ntmps172;go_wp2_with fail;refine H1.o.mono ?_;rintro e w1 ⟨a1,c1,rfl,hown1,hb1⟩;go_wp2_with fail;go_ret;exact⟨a1,c1,(by rw[List.length_append];rfl),hown1,hb1⟩
 |false=>
  go_enter Tryz.func172,Tryz.ntmps172;go_wp2_with fail;refine H0.o.mono ?_;rintro e w1 ⟨a1,c1,rfl,hown1,hb1⟩;go_wp2_with fail;go_ret;exact⟨a1,c1,(by rw[List.length_append];rfl),hown1,hb1⟩
theorem nQ{S:Nat→Prop}(a:Option Addr)(m c:Nat)(l:List UInt8)(n:Int)(w:World)(hr:ah S w a m (l.map bv))(hm:m≤100000000)(hn0:0≤n)(hn:n≤18446744073709551615):
  Calls Tryz.prog 53 #[.slice a m c,.int .u64 n] w (fB w (l++eB n 8)):=by
 obtain⟨i8,hi⟩:∃i,Tryz.prog.info? 5=some i∧i.zero=some (.int .u8 0)∧i.size=1∧i.bytes=1:=aam (by kernel_rfl);have HI:=acr hi;have hlm:l.length=m:=by simpa using hr.length
 have HLM:=acr hlm;have Yj:=acr (show(w.alloc (.cells #[] 5)).ownsRow w.heap.size 5 1 (.slice (some ⟨w.heap.size,0,none⟩) 0 0) 0 []from World.ownsRow_lit w #[] 0 acu (by decide) rfl);have Yk:acs (ah S (w.alloc (.cells #[] 5)) a m (l.map bv)):=hr.below (wall w _) acu;have Bu:=acr (wall w (.cells #[] 5));have ZX:(w.alloc (.cells #[] 5)).heap.size=w.heap.size+1:=by simp
 clear hr hi hlm;go_enter Tryz.func53,Tryz.ntmps53;go_wp2_with (at_builtin;go_loud (refine aQ rfl _ _ 28 rfl w.heap.size 5 i8 _ 1 Tryz.underlying28 HI.o.1 HI.o.2.1 HI.o.2.2.1 HI.o.2.2.2 rfl _ 0 [] rfl Yj.o a m c (l.map bv) rfl Yk.o (dV l) (by unfold maxLen;omega) (by omega) (by omega) ?_;intro A1 c1 u1 hown1 hg1 _ uQ;simp only[Nat.zero_add,List.nil_append]at hown1 uQ;have G6:=acr (dK hg1 (tY w) Bu.o);have wI:=acr hown1;clear hown1 hg1 uQ;(try simp only[Nat.zero_add])))
 go_loopw [5,6] (fun ov iv wr=>∃(k:Nat) (dn:List UInt8) (a1:Option Addr) (c1:Nat),k≤8∧iv= .int .i64 (8*(k:Int)-8)∧dn++eB n k=eB n 8∧dn.length+k=8∧ov= .slice a1 (m+dn.length) c1∧wr.ownsRow w.heap.size 5 1 (.slice a1 (m+dn.length) c1) (m+dn.length) ((l++dn).map bv)∧Below w.heap.size w wr) (fun _ iv _=>((intOf iv)+8).toNat)
 case atStart=>exact⟨8,[],A1,c1,by omega,rfl,rfl,rfl,rfl,by simpa using wI.o,G6.o⟩
 case round=>
  obtain⟨k,dn,a1,c1,hk,rfl,hdn,hdl,rfl,hown,hB⟩:=hrel;have Ck:=acr hdn;have HO:=acr hown;have HB:=acr hB;have SL:=hB.size;clear hdn hown hB;cases k with
  |zero=>
   have e0:8*((0:Nat):Int)-8= -8:=by omega
   rw[e0];have HD8:acs (dn.length=8):=acr (by omega);clear hdl;go_wp2_with fail;go_ret;have h9:dn++[]=eB n 8:=Ck.o;rw[aaA]at h9;refine⟨a1,c1,?_,?_,HB.o⟩
   ·rw[←h9,List.length_append,HLM.o];rfl
   ·rw[←h9,List.length_append,HLM.o];exact HO.o
  |succ k=>
   have hk0:(0:Int)≤k:=by omega
   have e1:8*((k+1:Nat):Int)-8=8*(k:Int):=by omega
   rw[e1];have hge:decide ((0:Int)≤8*(k:Int))=true:=by simp;omega
   have hbw:n/2^(8*k)%256=((UInt8.ofNat ((n/2^(8*k)).toNat%256)).toNat:Int):=by
    rw[←pK hn0 k,show(8*(k:Int)).toNat=8*k by omega];simp[IntKind.wrap,IntKind.signed,IntKind.bits]
   obtain⟨b0,hb0⟩:∃b0,b0=UInt8.ofNat ((n/2^(8*k)).toNat%256):=⟨_,rfl⟩;rw[←hb0]at hbw;have HB0:=acr hb0;obtain⟨N,hN⟩:∃N,N=m+dn.length:=⟨_,rfl⟩;have hN2:N≤100000008:=by omega
   rw[←hN]at HO⊢;have pq:=acr hN;have vC:=acr hdl;have IK:Below wr.heap.size wr (wr.alloc (.cells #[bv b0] 5)):=wall wr _;have HOW:=acr (wL HO.o (.cells #[bv b0] 5));have HLO:acs (∀b,(Value.slice a1 N c1).ownBlock=some b→w.heap.size≤b):=fun b hb=>M7 HO.o hb;have EO:=acr (HB.o.trans (IK.mono SL));clear hb0 hN hdl IK;go_wp2_with (at_builtin;go_loud (refine aQ rfl _ _ 28 rfl w.heap.size 5 i8 _ 1 Tryz.underlying28 HI.o.1 HI.o.2.1 HI.o.2.2.1 HI.o.2.2.2 rfl _ N ((l++dn).map bv) rfl HOW.o (some ⟨wr.heap.size,0,none⟩) 1 1 [bv b0] rfl (yN (bv b0) 5) (by simp[bv,Value.oneCell']) (by unfold maxLen;omega) (by omega) (by simp;omega) ?_;intro A2 c2 u2 hown2 hg2 _ Ie;have HG2:=acr (dK hg2 HLO.o EO.o);have E8:=acr hown2;clear hown2 hg2 Ie));go_roundw
   case rel=>
    refine⟨k,dn++[b0],A2,c2,by omega,by go_num,?_,by have:=vC.o;simp;omega,?_,?_,HG2.o⟩
    ·rw[TK,←Ck.o,HB0.o];rfl
    ·rw[List.length_append,←Nat.add_assoc,←pq.o];rfl
    ·rw[List.length_append,←Nat.add_assoc,←pq.o,←TK,List.map_append];exact E8.o
   case measure=>simp[intOf];omega
theorem Yl(w:World)(o1:Obj)(vs:List Value)(t:TypeId)(hm:vs.length≤maxLen):ah (fun x=>x=w.heap.size+1) ((w.alloc o1).alloc (.cells vs.toArray t)) (some ⟨w.heap.size+1,0,none⟩) vs.length vs:=
 ng (show((w.alloc o1).alloc (.cells vs.toArray t)).heap[w.heap.size+1]? =some (.cells vs.toArray t (0,0))from(jm w o1 _).2) hm
section
variable{W w:World}{o:Mark}{i r:Nat}{T:aA}
def LiveN(w:World)(T:aA)(now:Int)(e:Ending)(w':World):Prop:=∃a c,e= .returned (.slice a (lY T now).length c)∧Below w.heap.size w w'
theorem Ro(h:gV o i w r T)(hT:dZ T)(now:Int):Calls Tryz.prog 124 #[ptr r,.int .u64 now] w (LiveN w T now):=by
 obtain⟨iI,hI⟩:∃i,Tryz.prog.info? 3=some i∧i.zero=some (.int .i64 0)∧i.size=1∧i.bytes=8:=aam XP;have HI:=acr hI;have HR:=acr h;have hTl:=hT.len;have hlow:r<w.heap.size:=by
  obtain⟨F,hR,-,-⟩:=h;exact hR.low r hR.own
 obtain⟨tl,htl⟩:∃tl,tl=T.length:=⟨_,rfl⟩;rw[←htl]at hTl;have Fb:=acr htl;clear htl h hT hI;go_enter Tryz.func124,Tryz.ntmps124;go_wp2_with fail
 go_loopw [5,6] (fun v iv wr=>∃(k n:Nat) (a:Option Addr) (c:Nat),iv= .int .i64 k∧k≤tl∧n=(lY (T.take k) now).length∧n≤k∧v= .slice a n c∧wr.ownsRow w.heap.size 3 1 v n ((lY (T.take k) now).map (Value.int .i64))∧Below w.heap.size w wr) (fun _ iv _=>tl-(intOf iv).toNat)
 case atStart=>exact⟨0,0,none,0,rfl,Nat.zero_le _,rfl,Nat.le_refl _,rfl,⟨rfl,.inl ⟨rfl,rfl⟩⟩,Below.refl _ _⟩
 case round=>
  obtain⟨k,n,a,c,rfl,hk,hn,hnk,rfl,hown,hb⟩:=hrel;have HOWN:=acr hown;have HB:=acr hb;have HN:=acr hn;have HR1:=acr (HR.o.grow hb);obtain⟨a0,p0,hc0⟩:=HR1.o.nodes;rw[←Fb.o]at hc0;clear hown hn;by_cases hlt:k<tl
  ·have hd:decide (k<tl)=true:=by simpa using hlt
   obtain⟨y,hy⟩:∃y,T[k]? =some y:=⟨T[k]'(by rw[←Fb.o];exact hlt),List.getElem?_eq_getElem _⟩;obtain⟨b,off,cc,hc0',d0,d1,d2,d3,d4,d5⟩:=HR1.o.node hy;rw[←Fb.o,hc0]at hc0';simp only[Pd,aak,abR]at hc0';obtain⟨rfl,rfl⟩:=hc0';have i0:(0:Int)≤(k:Int):=by omega
   have i1:(k:Int)<(tl:Int):=by omega
   have Mh:=acr (MB (now:=now) hy);obtain⟨id,kind,links,size,aF,closed,he⟩:∃id kind links size aF closed,y.1=id∧y.2.kind=kind∧y.2.links=links∧(y.2.b.length:Int)=size∧y.2.aF=aF∧y.2.closed=closed:=⟨_,_,_,_,_,_,rfl,rfl,rfl,rfl,rfl,rfl⟩;obtain⟨e1,e2,e3,e4,e5,e6⟩:=he;rw[e1]at d0;rw[e2]at d1;rw[e3]at d2;rw[e4]at d3;rw[e5]at d4;rw[e6]at d5;have HLV:acs (Ai y.2 now=(decide (kind=1)&&closed&&decide (now<aF))):=by
    show Ai y.2 now=_;unfold Ai;rw[e2,e5,e6]
   have SG:=acr e1;clear hy e1 e2 e3 e4 e5 e6;by_cases hlv:(decide (kind=1)&&closed&&decide (now<aF))=true
   ·simp only[aaW,aah]at hlv;obtain⟨⟨rfl,rfl⟩,M9⟩:=hlv;have hnd:decide (now<aF)=true:=by simpa using M9
    have wB:acs (lY (T.take (k+1)) now=lY (T.take k) now++[id]):=by
     show lY (T.take (k+1)) now=_;rw[Mh.o,HLV.o,SG.o];simp[M9]
    clear Mh HLV;go_wp2_with (at_builtin;refine lM rfl _ _ 71 rfl w.heap.size 3 iI _ 1 8 Tryz.underlying71 HI.o.1 HI.o.2.1 HI.o.2.2.1 HI.o.2.2.2 rfl (by omega) (.slice a n c) n ((lY (T.take k) now).map (Value.int .i64)) rfl (fG (fG HOWN.o fun b _ h=>(wall wr _).block b h) fun b _ h=>(wall _ _).block b h) _ 1 1 [.int .i64 id] rfl (show ah _ _ _ (1*1) _ from Yl wr _ [.int .i64 id] 3 (by simp[maxLen])) (by simp[Value.oneCell']) (by unfold maxLen;omega) (by omega) (by have:=HB.o.size;simp;omega) ?_;intro A1 c1 w1 hown1 hb1;have wI:=acr hown1;have N_:=acr (((HB.o.trans ((wall wr _).mono HB.o.size)).trans ((wall _ _).mono (by have:=HB.o.size;simp;omega))).trans hb1);clear hown1 hb1);go_roundw
    case rel=>
     refine⟨k+1,n+1,A1,c1,by go_num,by omega,?_,by omega,rfl,?_,N_.o⟩
     ·rw[wB.o,List.length_append,←HN.o];rfl
     ·rw[wB.o,List.map_append];exact wI.o
    case measure=>simp[intOf];omega
   ·have hlf:(decide (kind=1)&&closed&&decide (now<aF))=false:=by simpa using hlv
    have wB:acs (lY (T.take (k+1)) now=lY (T.take k) now):=by
     show lY (T.take (k+1)) now=_;rw[Mh.o,HLV.o,hlf];simp
    clear Mh HLV hlv;have hfin:∀wx:World,Below w.heap.size w wx→wx.ownsRow w.heap.size 3 1 (.slice a n c) n ((lY (T.take k) now).map (Value.int .i64))→(∃(k' n':Nat) (a':Option Addr) (c':Nat),Value.int .i64 ((k:Int)+1)= .int .i64 k'∧k'≤tl∧n'=(lY (T.take k') now).length∧n'≤k'∧Value.slice a n c= .slice a' n' c'∧wx.ownsRow w.heap.size 3 1 (.slice a n c) n' ((lY (T.take k') now).map (Value.int .i64))∧Below w.heap.size w wx):=fun wx h1 h2=>⟨k+1,n,a,c,by go_num,by omega,by rw[wB.o];exact HN.o,by omega,rfl,by rw[wB.o];exact h2,h1⟩;have mH:=acr hfin;clear hfin;by_cases hk1:kind=1
    ·subst hk1;cases closed with
     |true=>
      have M9:decide (now<aF)=false:=by simpa using hlf
      have Vb:¬now<aF:=by simpa using M9
      clear hlf;go_wp2_with fail;go_roundw
      case rel=>exact mH.o _ (HB.o.trans ((wall wr _).mono HB.o.size)) (fG HOWN.o fun b _ h=>(wall wr _).block b h)
      case measure=>simp[intOf];omega
     |false=>
      clear hlf;go_wp2_with fail;go_roundw
      case rel=>exact mH.o _ (HB.o.trans ((wall wr _).mono HB.o.size)) (fG HOWN.o fun b _ h=>(wall wr _).block b h)
      case measure=>simp[intOf];omega
    ·have hkd:(kind==1)=false:=by simpa using hk1
     have hkd2:decide (kind=1)=false:=by simpa using hk1
     clear hlf;go_wp2_with fail;go_roundw
     case rel=>exact mH.o _ (HB.o.trans ((wall wr _).mono HB.o.size)) (fG HOWN.o fun b _ h=>(wall wr _).block b h)
     case measure=>simp[intOf];omega
  ·have hd:decide (k<tl)=false:=by simp;omega
   have HE:acs (n=(lY T now).length):=by
    show n=_;rw[HN.o,List.take_of_length_le (by rw[←Fb.o];omega)]
   clear hlt;go_wp2_with fail;go_ret;have h9:=HE.o;exact⟨a,c,by rw[←h9];rfl,HB.o⟩
end
def qD(o:Mark)(w:World)(vs:List Value)(x:iw):Prop:=
 ∃a c q,vs=[.int .i64 x.id,.slice a x.hash.length c,ptr q]∧x.hash.length≤c∧ah (Free o w) w a x.hash.length (x.hash.map bv)∧gV o 0 w q x.t∧dZ x.t
def dU(o:Mark)(w:World):List Value→List iw→Prop
 |vs,[]=>vs=[]
 |vs,x::r=>∃v1 v2,vs=v1++v2∧qD o w v1 x∧dU o w v2 r
structure gB(o:Mark)(i:Nat)(w:World)(s:Nat)(S:lN):Prop where
 at_:∃la lc a c vals,w.heap[s]? =some (.cells #[.int .i64 S.next,.slice la S.last.length lc,.slice a S.l.length c] 116 (0,0))∧o s=i∧s<w.heap.size∧
  S.l.length≤c∧ah (Free o w) w a (S.l.length*3) vals∧dU o w vals S.l∧
  S.last.length≤lc∧ah (Free o w) w la S.last.length (S.last.map bv)
theorem ah.wM{o:Mark}{w w':World}{a:Option Addr}{n:Nat}{vs:List Value}(h:ah (Free o w) w a n vs)(hb:Below w.heap.size w w'):ah (Free o w') w' a n vs:=
 h.move hb.size fun b hb' hbw=>⟨⟨hb'.1,Nat.lt_of_lt_of_le hb'.2 hb.size⟩,hb.block b hbw⟩
theorem qD.step{o o':Mark}{I:Nat→Prop}{w w':World}{vs:List Value}{x:iw}(h:qD o w vs x)(hi:¬I 0)(hs:Step o I w o' w'):qD o' w' vs x:=by
 obtain⟨a,c,q,h1,h2,h3,h4,h5⟩:=h;exact⟨a,c,q,h1,h2,h3.free hi hs,h4.step hi hi hs,h5⟩
theorem dU.step{o o':Mark}{I:Nat→Prop}{w w':World}(hi:¬I 0)(hs:Step o I w o' w'):∀{vs:List Value} {l:List iw},dU o w vs l→dU o' w' vs l
 |_,[],h=>h
 |_,x::r,⟨v1,v2,h1,h2,h3⟩=>⟨v1,v2,h1,h2.step hi hs,dU.step hi hs h3⟩
theorem qD.grow{o:Mark}{w w':World}{vs:List Value}{x:iw}(h:qD o w vs x)(hb:Below w.heap.size w w'):qD o w' vs x:=by
 obtain⟨a,c,q,h1,h2,h3,h4,h5⟩:=h;exact⟨a,c,q,h1,h2,h3.wM hb,h4.grow hb,h5⟩
theorem dU.grow{o:Mark}{w w':World}(hb:Below w.heap.size w w'):∀{vs:List Value} {l:List iw},dU o w vs l→dU o w' vs l
 |_,[],h=>h
 |_,x::r,⟨v1,v2,h1,h2,h3⟩=>⟨v1,v2,h1,h2.grow hb,dU.grow hb h3⟩
theorem qD.len{o:Mark}{w:World}{vs:List Value}{x:iw}(h:qD o w vs x):vs.length=3:=by
 obtain⟨a,c,q,h1,_⟩:=h;rw[h1];rfl
theorem dU.len{o:Mark}{w:World}:∀{vs:List Value} {l:List iw},dU o w vs l→vs.length=l.length*3
 |_,[],h=>by have h1:_=[]:=h;rw[h1];rfl
 |_,x::r,⟨v1,v2,h1,h2,h3⟩=>by
  rw[h1,List.length_append,h2.len,h3.len,List.length_cons];omega
theorem dU.append{o:Mark}{w:World}:∀{vs us:List Value} {l m:List iw},dU o w vs l→dU o w us m→dU o w (vs++us) (l++m)
 |_,_,[],_,h,k=>by have h1:_=[]:=h;rw[h1];exact k
 |_,_,x::r,_,⟨v1,v2,h1,h2,h3⟩,k=>⟨v1,v2++_,by rw[h1,TK],h2,h3.append k⟩
theorem dU.at_{o:Mark}{w:World}:∀{vs:List Value} {l:List iw} {k:Nat} {x:iw},dU o w vs l→l[k]? =some x→∃a c q,vs[k*3]? =some (.int .i64 x.id)∧vs[k*3+1]? =some (.slice a x.hash.length c)∧vs[k*3+2]? =some (ptr q)∧x.hash.length≤c∧ah (Free o w) w a x.hash.length (x.hash.map bv)∧gV o 0 w q x.t∧dZ x.t
 |_,[],k,x,_,hx=>by simp at hx
 |_,y::r,0,x,⟨v1,v2,h1,h2,h3⟩,hx=>by
  have hyx:y=x:=aaH hx;subst hyx;obtain⟨a,c,q,e1,e2,e3,e4,e5⟩:=h2;subst e1 h1;exact⟨a,c,q,rfl,rfl,rfl,e2,e3,e4,e5⟩
 |_,y::r,k+1,x,⟨v1,v2,h1,h2,h3⟩,hx=>by
  obtain⟨a,c,q,e1,e2,e3,e4⟩:=dU.at_ h3 (k:=k) (x:=x) (by simpa using hx);have hl:=h2.len;subst h1;refine⟨a,c,q,?_,?_,?_,e4⟩
  ·rw[aaw (by omega),←e1];congr 1;omega
  ·rw[aaw (by omega),←e2];congr 1;omega
  ·rw[aaw (by omega),←e3];congr 1;omega
theorem dU.take{o:Mark}{w:World}:∀{vs:List Value} {l:List iw} (k:Nat),dU o w vs l→dU o w (vs.take (k*3)) (l.take k)
 |_,[],k,h=>by have h1:_=[]:=h;rw[h1];simp;exact rfl
 |_,y::r,0,_=>by simp;exact rfl
 |_,y::r,k+1,⟨v1,v2,h1,h2,h3⟩=>by
  subst h1;have hl:=h2.len;refine⟨v1,v2.take (k*3),?_,h2,h3.take k⟩;rw[List.take_append,List.take_of_length_le (by omega)];congr 2;omega
theorem dU.drop{o:Mark}{w:World}:∀{vs:List Value} {l:List iw} (k:Nat),dU o w vs l→dU o w (vs.drop (k*3)) (l.drop k)
 |_,[],k,h=>by have h1:_=[]:=h;rw[h1];simp;exact rfl
 |_,y::r,0,h=>by simpa using h
 |_,y::r,k+1,⟨v1,v2,h1,h2,h3⟩=>by
  subst h1;have hl:=h2.len;have h4:=h3.drop k;rw[List.drop_append,List.drop_eq_nil_of_le (by omega)];have e:(k+1)*3-v1.length=k*3:=by omega
  rw[e];exact h4
theorem qD.one{o:Mark}{w:World}{vs:List Value}{x:iw}(h:qD o w vs x):∀u∈vs,u.oneCell'=true:=by
 obtain⟨a,c,q,h1,_⟩:=h;intro u hu;rw[h1]at hu;simp only[aan,abh,or_false]at hu;rcases hu with rfl|rfl|rfl<;>rfl
theorem dU.one{o:Mark}{w:World}:∀{vs:List Value} {l:List iw},dU o w vs l→∀u∈vs,u.oneCell'=true
 |_,[],h=>by have h1:_=[]:=h;rw[h1];intro u hu;cases hu
 |_,x::r,⟨v1,v2,h1,h2,h3⟩=>by
  intro u hu;rw[h1]at hu;rcases aap.1 hu with hu|hu
  ·exact h2.one u hu
  ·exact dU.one h3 u hu
theorem gB.step{o o':Mark}{I:Nat→Prop}{j:Nat}{w w':World}{s:Nat}{S:lN}(h:gB o j w s S)(hi:¬I 0)(hj:¬I j)(hs:Step o I w o' w'):gB o' j w' s S:=by
 obtain⟨la,lc,a,c,vals,h1,h2,h3,h4,h5,h6,h7,h8⟩:=h.at_;exact⟨la,lc,a,c,vals,(hs.block h3 (by rw[h2];exact hj)).trans h1,(hs.old s h3).trans h2,Nat.lt_of_lt_of_le h3 hs.keep.size,h4,h5.free hi hs,h6.step hi hs,h7,h8.free hi hs⟩
section
variable{W w:World}{o:Mark}{i s:Nat}{S:lN}
theorem gB.grow(h:gB o i w s S){w':World}(hM:Marks W o w)(hb:Below w.heap.size w w'):gB o i w' s S:=
 h.step (I:=fun _=>False) (fun h=>h) (fun h=>h) (Step.grow hM hb)
theorem gB.lt(h:gB o i w s S):s<w.heap.size:=by
 obtain⟨la,lc,a,c,vals,h1,h2,h3,_⟩:=h.at_;exact h3
theorem Kj{w8:World}(hM:Marks W o w)(hos:o s=i)(hK:Keeps (fun b=>b=s) w w8):Step o (fun k=>k=i) w o w8:=
 ⟨fun _ _=>rfl,fun b hb hn=>by have:=(hM.new b hn).2;omega,hK.mono fun x _ hx=>by
  have hx':x=s:=hx;rw[hx'];exact hos⟩
theorem Kk{w8:World}(hM:Marks W o w){a:Option Addr}{n:Nat}{vs:List Value}{B:Nat}(hB:w.heap.size≤B)(h:ah (fun x=>B≤x∧x<w8.heap.size) w8 a n vs):ah (Free o w8) w8 a n vs:=
 h.mono fun b hb=>⟨Decidable.byContradiction fun h0=>by have:=(hM.new b h0).2;omega,hb.2⟩
theorem Ym(hM:Marks W o w)(j:Nat):Calls Tryz.prog 23 #[] w fun e w'=>∃s o',e= .returned (ptr s)∧Step o (fun k=>k=j) w o' w'∧gB o' j w' s Jy∧Below w.heap.size w w':=by
 have HM:=acr hM;clear hM;go_enter Tryz.func23,Tryz.ntmps23;go_wp2;go_ret;obtain⟨o',hs,h1,h2⟩:=iQ HM.o j (fun b=>b=w.heap.size) (w':=w.alloc (.cells #[.int .i64 1,.slice none 0 0,.slice none 0 0] 116)) (fun b hb=>by subst hb;simp) (wall w _);refine⟨w.heap.size,o',rfl,hs,⟨none,0,none,0,[],(MapKept.heap_alloc w _).1,h1 _ rfl,by simp,Nat.le_refl _,ah.nil _ _ _,rfl,Nat.le_refl _,ah.nil _ _ _⟩,wall w _⟩
end
theorem M_{T:aA}{now:Int}:Aj T now=decide (0<(lY T now).length):=rfl
section
variable{W w:World}{o:Mark}{i s:Nat}{S:lN}
theorem Kl(hS:gB o i w s S)(hM:Marks W o w)(hi:i≠0)(Km:S.l.length≤8)(id now:Int):
  Calls Tryz.prog 51 #[ptr s,.int .i64 id,.int .u64 now] w fun e w'=>∃er S',e= .returned (.int .i64 er)∧Ht S id now er S'∧Step o (fun k=>k=i) w o w'∧gB o i w' s S':=by
 obtain⟨iO,ZY⟩:∃j,Tryz.prog.info? 150=some j∧j.zero=some (.agg #[.int .i64 0,.slice none 0 0,.pointer none])∧j.size=3∧j.bytes=40:=aam (by kernel_rfl);have uI:=acr ZY;have HS:=acr hS;have HM:=acr hM;obtain⟨la,lc,a,c,vals,h1,h2,h3,h4,h5,h6,h7,h8⟩:=hS.at_;have HH:=acr h1;have D7:=acr h6;have HLR:=acr h8;have SI:=acr h7;have HOS:=acr h2;obtain⟨n,hn⟩:∃n,n=S.l.length:=⟨_,rfl⟩;have HN:=acr hn;rw[←hn]at h1 h4 h5 Km;have lg:=acr h5;have EP:acs (∀w',Below w.heap.size w w'→w'.cell? ⟨s,2,none⟩=some (.slice a n c)∧w'.frozen? ⟨s,2,none⟩=false):=fun w' hb=>by
  have hbb:=(hb.block s h3).trans h1;refine⟨?_,?_⟩<;>simp[World.cell?,World.frozen?,hbb]
 clear hS hM h1 h2 h5 h6 h7 h8 hn ZY;go_enter Tryz.func51,Tryz.ntmps51;go_wp2_with fail
 go_loopw [7] (fun iv wr=>∃k:Nat,iv= .int .i64 k∧k≤n∧(∀x∈S.l.take k,x.id≠id)∧Below w.heap.size w wr) (fun iv _=>n-(intOf iv).toNat)
 case atStart=>exact⟨0,rfl,by omega,by simp,Below.refl _ _⟩
 case round=>
  obtain⟨k,rfl,hk,hno,hb⟩:=hrel;have Dx:=acr hno;have HB:=acr hb;obtain⟨c2,cf⟩:=EP.o wr hb;clear hno;by_cases hlt:k<n
  ·have hd:decide (k<n)=true:=by simpa using hlt
   obtain⟨x,hx⟩:∃x,S.l[k]? =some x:=⟨S.l[k]'(by rw[←HN.o];exact hlt),List.getElem?_eq_getElem _⟩;have HRW:=lg.o;obtain⟨g,off,rfl,hgw,_,hcell⟩:=HRW.at_ (by omega);obtain⟨ha,hcp,q,e0,e1,e2,e3,e4,e5,e6⟩:=D7.o.at_ hx;have d0:wr.cell? ⟨g,off+k*3,none⟩=some (.int .i64 x.id):=(hb.cell (p:=⟨g,off+k*3,none⟩) hgw.2).trans ((hcell (k*3) (by omega)).trans e0);have d2:wr.cell? ⟨g,off+k*3+2,none⟩=some (ptr q):=(hb.cell (p:=⟨g,off+k*3+2,none⟩) hgw.2).trans ((hcell (k*3+2) (by omega)).trans e2);have HLV:=acr (Ro (e5.grow hb) e6 now);have HX:=acr hx;have i0:(0:Int)≤k:=by omega
   have i1:(k:Int)<n:=by omega
   have i1':(k:Int)≤c:=by omega
   have i2:(k:Int)+1≤n:=by omega
   have i3:(0:Int)≤(k:Int)+1:=by omega
   have i4:(n:Int)≤c:=by omega
   have ew:IntKind.i64.wrap ((k:Int)+1)=(k:Int)+1:=aag _ (by omega);clear hx hcell e0 e1 e2 e3 e4 e5 e6 HRW;by_cases he:x.id=id
   ·rw[he]at d0;have HE:=acr he;clear he;go_wp2_with fail;refine HLV.o.mono ?_;rintro e w1 ⟨la1,lc1,rfl,hb1⟩;have HB1:=acr (HB.o.trans (hb1.mono HB.o.size));obtain⟨m,hm⟩:∃m,m=(lY x.t now).length:=⟨_,rfl⟩;rw[←hm];have HBE:acs (Aj x.t now=decide (0<m)):=by
     show Aj x.t now=_;rw[M_,hm]
    obtain⟨c2',cf'⟩:=EP.o w1 HB1.o;clear hb1 hm c2 cf;by_cases hpos:0<m
    ·have hpd:decide (0<m)=true:=by simpa using hpos
     rw[hpd]at HBE;have hpd2:decide ((0:Int)<(m:Int))=true:=by simp;omega
     go_wp2_with fail;go_ret;exact⟨28,S,rfl,.inr ⟨k,x,HX.o,HE.o,Dx.o,.inl ⟨HBE.o,rfl,rfl⟩⟩,Step.grow HM.o HB1.o,HS.o.grow HM.o HB1.o⟩
    ·have hpd:decide (0<m)=false:=by simpa using hpos
     rw[hpd]at HBE;have hm0:m=0:=by omega
     subst hm0;clear hpos hpd;have qB:acs (∀wx,Below w1.heap.size w1 wx→ah (Free o w) wx (some ⟨g,off,none⟩) (k*3) (vals.take (k*3))∧ah (Free o w) wx (if c=k+1 then some ⟨g,off,none⟩else some ⟨g,off+(k+1)*3,none⟩) ((n-(k+1))*3) (vals.drop ((k+1)*3))):=fun wx hx=>by
      rcases QE lg.o hlt (HB1.o.trans (hx.mono HB1.o.size)) (c:=c)with h9|h9
      ·exact h9
      ·omega
     have iW:acs (∀wx,Below w1.heap.size w1 wx→wx.cell? ⟨s,2,none⟩=some (.slice (some ⟨g,off,none⟩) n c)∧wx.frozen? ⟨s,2,none⟩=false):=fun wx hx=>EP.o wx (HB1.o.trans (hx.mono HB1.o.size));have Kn:=acr D7.o.one;go_wp2_with fail;refine wQ 19 ((fun w'=>w'.cell? ⟨s,2,none⟩=some (.slice (some ⟨g,off,none⟩) n c)∧w'.frozen? ⟨s,2,none⟩=false)) ?_ fun hS=> ?_
     ·exact iW.o _ acv.drew
     refine aC 0 hS ?_;refine aC 2 hS ?_;refine aC 3 hS ?_;refine aC 4 hS ?_;refine aC 5 hS ?_;refine aC 6 hS ?_;refine aC 7 hS ?_;refine aC 9 hS ?_;refine aC 10 hS ?_;refine aC 11 hS ?_;refine aC 12 hS ?_;refine aC 13 hS ?_;refine aC 14 hS ?_;refine aC 15 hS ?_;refine bU 1 fun K hK=> ?_;go_simp;refine bV hK (iW.o _ (acv.drew.alloc acu _)) fun hS=> ?_;clear hK K;refine bU 8 fun K hK=> ?_;refine au (by rfl) (.tmp 40) (.tmp 46) 114 (by rfl) w1.heap.size 150 iO _ 3 40 Tryz.underlying114 uI.o.1 uI.o.2.1 uI.o.2.2.1 uI.o.2.2.2 rfl (by omega) _ 0 [] (by rfl) (fT (MapKept.heap_alloc w1.drew _).1 acu) _ k _ (vals.take (k*3)) (by rfl) (qB.o _ (acv.drew.alloc acu _)).1 (fun u hu=>Kn.o u (List.mem_of_mem_take hu)) (by unfold maxLen;omega) (by omega) (by simp) ?_;intro A1 c1 w2 hown1 hb2;have hB2:Below w1.heap.size w1 w2:=(acv.drew.alloc acu _).trans hb2;refine bV hK (iW.o _ hB2) fun hS=> ?_;clear hK K;refine bU 16 fun K hK=> ?_;refine au (by rfl) (.tmp 47) (.tmp 54) 114 (by rfl) w1.heap.size 150 iO _ 3 40 Tryz.underlying114 uI.o.1 uI.o.2.1 uI.o.2.2.1 uI.o.2.2.2 rfl (by omega) _ _ _ (by rfl) hown1 _ (n-(k+1)) _ (vals.drop ((k+1)*3)) (by rfl) (qB.o _ hB2).2 (fun u hu=>Kn.o u (List.mem_of_mem_drop hu)) (by unfold maxLen;omega) (by omega) hB2.size ?_;intro A2 c2 w3 hown2 hb3;have hB3:Below w1.heap.size w1 w3:=hB2.trans hb3;refine bV hK (iW.o _ hB3) fun hS=> ?_;clear hK K;refine aC 17 hS ?_;refine aC 18 hS ?_;refine bU 19 fun K hK=> ?_;go_simp;refine nk hK ?_;clear hS hK K;have E8:=acr hown2;have HB3:=acr (HB1.o.trans (hB3.mono HB1.o.size));clear hown1 hown2 hb2 hb3 hB2 hB3;go_wp2_with fail
     all_goals (
      go_ret;obtain⟨-,hcc,-,hrow2⟩:=ah.nX E8.o (by unfold maxLen;omega);rw[List.nil_append,Nat.zero_add]at hrow2;rw[Nat.zero_add]at hcc;have hln:(Fh S k).l.length=k+(n-(k+1)):=by
       show(S.l.take k++S.l.drop (k+1)).length=_;have:=HN.o;rw[List.length_append,List.length_take,List.length_drop];omega
      rw[←hln]at hrow2 hcc⊢;have h1s:=HB1.o.size;have h3s:=HB3.o.size;have hK:Keeps (fun b=>b=s) w (w3.setCell ⟨s,2,none⟩ (.slice A2 (Fh S k).l.length c2)):=(lW HB3.o).trans (Keeps.gI w3 ⟨s,2,none⟩ _) fun x _ hx=>hx;have hst:=Kj (i:=i) HM.o HOS.o hK;have hi0:¬(fun j=>j=i) 0:=fun e=>hi e.symm;have hh8:(w3.setCell ⟨s,2,none⟩ (.slice A2 (Fh S k).l.length c2)).heap[s]? =some (.cells #[.int .i64 S.next,.slice la S.last.length lc,.slice A2 (Fh S k).l.length c2] 116 (0,0)):=aO ((HB3.o.block s h3).trans HH.o);refine⟨0,rfl,Fh S k,.inr ⟨k,x,HX.o,HE.o,Dx.o,.inr ⟨HBE.o,rfl,rfl⟩⟩,hst,⟨la,lc,A2,c2,_,hh8,HOS.o,by rw[size_set];omega,hcc,?_,((D7.o.take k).append (D7.o.drop (k+1))).step hi0 hst,SI.o,HLR.o.free hi0 hst⟩⟩;refine Kk (B:=w1.heap.size) HM.o (by omega) (hrow2.move (by rw[size_set];omega) fun b hb hbw=>⟨⟨hb.1,by rw[size_set];exact hb.2⟩,bA _ _ _ _ ?_⟩);show b≠s;have:=hb.1;omega)
   ·have hed:(x.id==id)=false:=by simpa using he
    have HE:=acr he;clear he HLV;go_wp2_with fail;go_roundw
    case rel=>
     refine⟨k+1,by go_num,by omega,fun y hy=> ?_,HB.o⟩;obtain⟨hkl,ek⟩:=aac.1 HX.o;rw[aae hkl,ek]at hy;rcases aap.1 hy with hy|hy
     ·exact Dx.o y hy
     ·simp only[List.mem_singleton]at hy;rw[hy];exact HE.o
    case measure=>simp[intOf];omega
  ·have hd:decide (k<n)=false:=by simpa using hlt
   have hall:∀x∈S.l,x.id≠id:=fun x hx=>Dx.o x (by
    rw[List.take_of_length_le (by have:=HN.o;omega)];exact hx)
   have BS:=acr hall;clear hall;go_wp2_with fail;go_ret;exact⟨29,S,rfl,.inl ⟨rfl,rfl,BS.o⟩,Step.grow HM.o HB.o,HS.o.grow HM.o HB.o⟩
end
theorem Vd(a b:Int):wX a b=wX b a:=by simp only[wX,bits,BitVec.or_comm]
theorem Rp(x:Int)(n:Nat)(w:World)(hx:0≤x)(h0:0<n)(h1:n<32):Calls Tryz.prog 178 #[.int .u32 x,.int .u64 (n:Int)] w fun e w'=>e= .returned (.int .u32 (lu x (32-n)))∧w=w':=by
 have e1:(0:Int)≤(n:Int):=by omega
 have e2:(n:Int)≤32:=by omega
 have e3:IntKind.u64.wrap (32-(n:Int))=32-(n:Int):=by simp[IntKind.wrap,IntKind.bits,IntKind.signed];omega
 have e4:(0:Int)≤32-(n:Int):=by omega
 have e5:32-(n:Int)≤32:=by omega
 go_enter Tryz.func178,Tryz.ntmps178;go_wp2;go_ret;refine⟨?_,rfl⟩;unfold lu;rw[Vd,show 32-(32-n)=n by omega];have e6:(32-(n:Int)).toNat=32-n:=by omega
 rfl
theorem OM(x y:Nat)(hx:x<4294967296)(hy:y<4294967296):x|||y<4294967296:=Nat.or_lt_two_pow (n:=32) hx hy
theorem Ve(d:Nat)(hd:d<4294967296):wX 0 (d:Int)=(d:Int):=by
 have h:=u32_or_nat 0 d (by decide) hd;rw[Nat.zero_or]at h;exact h
theorem Yn(a b c d:Nat)(ha:a<4294967296)(hb:b<4294967296)(hc:c<4294967296)(hd:d<4294967296):wX (wX (wX (a:Int) (b:Int)) (c:Int)) (d:Int)=wX (wX (wX (wX 0 (d:Int)) (c:Int)) (b:Int)) (a:Int):=by
 rw[Ve d hd];have h1:=OM _ _ ha hb;have h2:=OM _ _ h1 hc;have k1:=OM _ _ hd hc;have k2:=OM _ _ k1 hb;have e1:wX (wX (wX (a:Int) (b:Int)) (c:Int)) (d:Int)=((((a|||b)|||c)|||d:Nat):Int):=by
  simp only[wX];rw[u32_or_nat _ _ ha hb,u32_or_nat _ _ h1 hc,u32_or_nat _ _ h2 hd]
 have e2:wX (wX (wX (d:Int) (c:Int)) (b:Int)) (a:Int)=((((d|||c)|||b)|||a:Nat):Int):=by
  simp only[wX];rw[u32_or_nat _ _ hd hc,u32_or_nat _ _ k1 hb,u32_or_nat _ _ k2 ha]
 rw[e1,e2];congr 1
 ac_rfl
theorem Yo(a b c d:UInt8):wX (wX (wX ((a.toNat:Int)*16777216) ((b.toNat:Int)*65536)) ((c.toNat:Int)*256)) (d.toNat:Int)=Dv a b c d:=by
 have ha:=a.toNat_lt;have hb:=b.toNat_lt;have hc:=c.toNat_lt;have hd:=d.toNat_lt;have h:=Yn (a.toNat*16777216) (b.toNat*65536) (c.toNat*256) d.toNat (by omega) (by omega) (by omega) (by omega);unfold Dv;rw[show(d.toNat:Int)%4294967296=(d.toNat:Int)by omega,show(c.toNat:Int)%4294967296*256%4294967296=((c.toNat*256:Nat):Int)by omega,show(b.toNat:Int)%4294967296*65536%4294967296=((b.toNat*65536:Nat):Int)by omega,show(a.toNat:Int)%4294967296*16777216%4294967296=((a.toNat*16777216:Nat):Int)by omega,←h];rw[show(a.toNat:Int)*16777216=((a.toNat*16777216:Nat):Int)by omega,show(b.toNat:Int)*65536=((b.toNat*65536:Nat):Int)by omega,show(c.toNat:Int)*256=((c.toNat*256:Nat):Int)by omega]
theorem Ko:∀(a b:Nat) (h:List Int) (X:List UInt8),runM h (a+b) X=runM (runM h a X) b (X.drop (64*a))
 |0,b,h,X=>by simp[runM]
 |a+1,b,h,X=>by
  rw[show a+1+b=(a+b)+1 by omega];show runM (jG h (X.take 64)) (a+b) (X.drop 64)=runM (runM (jG h (X.take 64)) a (X.drop 64)) b (X.drop (64*(a+1)));rw[Ko a b,List.drop_drop,show 64+64*a=64*(a+1)by omega]
theorem yg:∀(a:Nat) (h:List Int) (X Y:List UInt8),64*a≤X.length→runM h a (X++Y)=runM h a X
 |0,_,_,_,_=>rfl
 |a+1,h,X,Y,hl=>by
  show runM (jG h ((X++Y).take 64)) a ((X++Y).drop 64)=runM (jG h (X.take 64)) a (X.drop 64);rw[List.take_append_of_le_length (by omega),List.drop_append_of_le_length (by omega)];exact yg a _ _ _ (by rw[List.length_drop];omega)
theorem Rq(a:Nat)(h:List Int)(X:List UInt8)(hl:64*a≤X.length):runM h a X=runM h a (X.take (64*a)):=by
 have h1:=yg a h (X.take (64*a)) (X.drop (64*a)) (by rw[List.length_take];omega)
 rwa [aaR]at h1
theorem Na(n:Nat):oL (n-n/64*64)=oL n:=by
 unfold oL;have:(n-n/64*64)%64=n%64:=by omega
 rw[this]
theorem Rt(bs:List UInt8):uS bs bs.length=bs.take (bs.length/64*64)++uS (bs.drop (bs.length/64*64)) bs.length:=by
 unfold uS;rw[List.length_drop,Na]
 conv=>lhs;rw[←aaR (bs.length/64*64) bs]
 simp only[TK,List.length_append,List.length_take,List.length_drop];rw[show min (bs.length/64*64) bs.length+(bs.length-bs.length/64*64)=bs.length by omega]
theorem Vf(bs:List UInt8):vE bs=Hq (runM IQ ((uS bs bs.length).length/64) (uS bs bs.length)):=by
 have hs:=Rt bs;have ht:(bs.take (bs.length/64*64)).length=64*(bs.length/64):=by rw[List.length_take];omega
 have hl:(uS bs bs.length).length/64=bs.length/64+(uS (bs.drop (bs.length/64*64)) bs.length).length/64:=by
  rw[hs,List.length_append,ht];omega
 rw[hl,Ko];unfold vE;have e1:runM IQ (bs.length/64) (uS bs bs.length)=runM IQ (bs.length/64) bs:=by
  rw[hs,yg _ _ _ _ (by omega),Rq (bs.length/64) IQ bs (by omega),Nat.mul_comm]
 have e2:(uS bs bs.length).drop (64*(bs.length/64))=uS (bs.drop (bs.length/64*64)) bs.length:=by
  conv=>lhs;rw[hs]
  rw[←ht,List.drop_left'];rfl
 rw[e1,e2]
def rP(b:List UInt8)(j:Nat):List Int:=if j≤16 then(List.range j).map (Bh b)else oK b (j-16)
theorem Ru(b:List UInt8):rP b 0=[]:=rfl
theorem Vg(b:List UInt8)(j:Nat):(rP b j).length=j:=by
 unfold rP;split
 ·simp
 ·rw[xI];omega
theorem OO(b:List UInt8){j:Nat}(h:16≤j):rP b j=oK b (j-16):=by
 unfold rP;split
 ·have:j=16:=by omega
  subst this;rfl
 ·rfl
theorem OP(b:List UInt8){j:Nat}(h:j<16):rP b (j+1)=rP b j++[Bh b j]:=by
 unfold rP;rw[if_pos (by omega),if_pos (by omega),List.range_succ,List.map_append];rfl
theorem OQ(b:List UInt8){j:Nat}(h:16≤j):rP b (j+1)=rP b j++[JE (rP b j)]:=by
 rw[OO b h,OO b (by omega),show j+1-16=(j-16)+1 by omega];rfl
theorem Vh(b:List UInt8):rP b 64=oK b 48:=rfl
theorem Yp(a b:Int):0≤wX a b:=by
 simp only[wX,bits,IntKind.bits,IntKind.signed];simp[IntKind.wrap,IntKind.bits,IntKind.signed];omega
theorem Vi(a b c d:UInt8):0≤Dv a b c d:=Yp _ _
theorem Ig(z:Int):0≤Ot z:=Int.emod_nonneg _ (by decide)
theorem nY{l:List Int}(h:∀x∈l,0≤x)(i:Nat):0≤l.getD i 0:=by
 rw[aaL];cases hx:l[i]? with
 |none=>exact aaS 0
 |some x=>exact h x (aat hx)
theorem Ih(b:List UInt8):∀j,∀x∈rP b j,0≤x
 |0,x,hx=>by rw[Ru]at hx;cases hx
 |j+1,x,hx=>by
  by_cases h:j<16
  ·rw[OP b h]at hx;rcases aap.1 hx with hx|hx
   ·exact Ih b j x hx
   ·rw[List.mem_singleton.1 hx];exact Vi _ _ _ _
  ·rw[OQ b (by omega)]at hx;rcases aap.1 hx with hx|hx
   ·exact Ih b j x hx
   ·rw[List.mem_singleton.1 hx];exact Ig _
structure xJ.Nn(s:xJ):Prop where
 a:0≤s.a
 c:0≤s.c
 d:0≤s.d
 e:0≤s.e
 f:0≤s.f
 g:0≤s.g
 h:0≤s.h
 j:0≤s.j
theorem xJ.of_nn{h:List Int}(hn:∀x∈h,0≤x):(xJ.of h).Nn:=⟨nY hn 0,nY hn 1,nY hn 2,nY hn 3,nY hn 4,nY hn 5,nY hn 6,nY hn 7⟩
theorem xJ.Nn.round{s:xJ}(h:s.Nn)(k w:Int):(Dw s k w).Nn:=⟨Ig _,h.a,h.c,h.d,Ig _,h.f,h.g,h.h⟩
theorem xJ.Gs{s:xJ}(h:s.Nn)(ws:List Int):∀n,(ru s ws n).Nn
 |0=>h
 |n+1=>(xJ.Gs h ws n).round _ _
theorem Rv(h:List Int)(b:List UInt8):∀x∈jG h b,0≤x:=by
 intro x hx;unfold jG at hx;obtain⟨i,hi,rfl⟩:=List.mem_iff_getElem.1 hx;rw[List.getElem_zipWith];exact Ig _
theorem OT:∀(n:Nat) (h:List Int) (b:List UInt8),(∀x∈h,0≤x)→∀x∈runM h n b,0≤x
 |0,h,b,hn=>hn
 |n+1,h,b,hn=>OT n _ _ (Rv h _)
theorem h0M_nn:∀x∈IQ,0≤x:=by decide
theorem rt{s:Nat}(n:Nat)(hs:s=32-n)(x:Int)(w:World)(hx:0≤x)(h0:0<n)(h1:n<32):Calls Tryz.prog 178 #[.int .u32 x,.int .u64 (n:Int)] w fun e w'=>e= .returned (.int .u32 (lu x s))∧w=w':=by
 subst hs;exact Rp x n w hx h0 h1
theorem hA_get{h:List Int}(hl:h.length=8){w:World}{b:Nat}{t:TypeId}(hb:w.heap[b]? =some (.cells (h.map jy).toArray t (0,0))){k:Nat}(hk:k<8):w.cell? ⟨b,k,none⟩=some (jy (h.getD k 0)):=by
 rw[←FY hl hk];simp[World.cell?,hb]
theorem CB(X:List UInt8)(p j i:Nat)(h:4*j+i<64):(((X.drop p).take 64).drop (j*4)).getD i 0=X.getD (p+4*j+i) 0:=by
 rw[aaL,aaL,abE,aaD,if_pos (by omega),abE];congr 2;omega
theorem Yq(X:List UInt8)(p j:Nat)(h:j<16):Bh ((X.drop p).take 64) j=Dv (X.getD (p+4*j) 0) (X.getD (p+4*j+1) 0) (X.getD (p+4*j+2) 0) (X.getD (p+4*j+3) 0):=by
 unfold Bh;rw[CB X p j 0 (by omega),CB X p j 1 (by omega),CB X p j 2 (by omega),CB X p j 3 (by omega)];rfl
theorem zy{S:Nat→Prop}{w:World}{b off n:Nat}{X:List UInt8}(h:ah S w (some ⟨b,off,none⟩) n (X.map bv)){q:Nat}(hq:q<n):w.cell? ⟨b,off+q,none⟩=some (.int .u8 ((X.getD q 0).toNat:Int)):=by
 obtain⟨b',off',e,-,-,hc⟩:=h.at_ (by omega);simp only[Pd,aaQ,aaI]at e;obtain⟨rfl,rfl⟩:=e;have hl:X.length=n:=by simpa using h.length
 rw[hc q hq,List.getElem?_map,List.getElem?_eq_getElem (by omega),aaL,List.getElem?_eq_getElem (by omega)];rfl
theorem Vj(a b c d:UInt8):wX (wX (wX ((a.toNat:Int)%4294967296*16777216%4294967296) ((b.toNat:Int)%4294967296*65536%4294967296)) ((c.toNat:Int)%4294967296*256%4294967296)) ((d.toNat:Int)%4294967296)=Dv a b c d:=by
 have ha:=a.toNat_lt;have hb:=b.toNat_lt;have hc:=c.toNat_lt;have hd:=d.toNat_lt;rw[show(d.toNat:Int)%4294967296=(d.toNat:Int)by omega,show(c.toNat:Int)%4294967296*256%4294967296=(c.toNat:Int)*256 by omega,show(b.toNat:Int)%4294967296*65536%4294967296=(b.toNat:Int)*65536 by omega,show(a.toNat:Int)%4294967296*16777216%4294967296=(a.toNat:Int)*16777216 by omega];exact Yo a b c d
theorem Yr(H:List Int):((H.map jy).toArray).all (·.oneCell')=true:=by
 simp[Value.oneCell']
theorem add_m(x y:Int):(x%4294967296+y%4294967296)%4294967296=(x+y)%4294967296:=by omega
theorem add_m2(x y:Int):(x+y%4294967296)%4294967296=(x+y)%4294967296:=by omega
theorem Nb(a c d e f g h j k w:Int):(Dw ⟨a,c,d,e,f,g,h,j⟩ k w).list=[(j+bits .xor .u32 (bits .xor .u32 (lu f 26) (lu f 21)) (lu f 7)+bits .xor .u32 (bits .and .u32 f g) (bits .and .u32 (bits .xor .u32 IntKind.u32.max f) h)+k+w+(bits .xor .u32 (bits .xor .u32 (lu a 30) (lu a 19)) (lu a 10)+bits .xor .u32 (bits .xor .u32 (bits .and .u32 a c) (bits .and .u32 a d)) (bits .and .u32 c d)))%4294967296,a,c,d,(e+(j+bits .xor .u32 (bits .xor .u32 (lu f 26) (lu f 21)) (lu f 7)+bits .xor .u32 (bits .and .u32 f g) (bits .and .u32 (bits .xor .u32 IntKind.u32.max f) h)+k+w))%4294967296,f,g,h]:=by
 rw[←add_m,←add_m2 e];rfl
end Go.Proofs.YtjnhnlabpccgjaaGreatDoor
