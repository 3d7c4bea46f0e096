/- permafrostref2 -/
import Derived.Test.YtjnhnlabpccgjaaGreatDoorM32
import Derived.Test.YtjnhnlabpccgjaaGreatDoorM20
import Derived.Test.YtjnhnlabpccgjaaGreatDoorM12
import Derived.Test.YtjnhnlabpccgjaaGreatDoorM19
import Derived.Test.YtjnhnlabpccgjaaGreatDoorM24
import Derived.Deep.WholeRow
import Derived.BigQuiet
import Derived.Deep.QuietTactic
set_option maxRecDepth 100000
set_option maxHeartbeats 64000000
set_option linter.all false
namespace Go.Proofs.YtjnhnlabpccgjaaGreatDoor
open Go.ChangeShapes Go.WideShapes Go.ChangeAt Go.RowKit
theorem Rw{w:World}{b i:Nat}(h:w.heap[b]? =some (.cells xK 218 (0,0)))(hi:i<64):w.cell? ⟨b,i,none⟩=some (jy (kM.getD i 0)):=by
 have hk:kM.length=64:=rfl;simp only[World.cell?,h];show((kM.map jy).toArray)[i]? =_;rw[aaq,List.getElem?_map,aaL,List.getElem?_eq_getElem (by rw[hk];exact hi)];rfl
theorem Kq(w:World)(b:Nat)(hb:b=w.heap.size):(Instr.storeAt 218 (.pointer (some ⟨b,0,none⟩)) (.agg xK)).run Tryz.prog (w.alloc (.cells z64 218))= .ok () (w.alloc (.cells xK 218)):=by
 subst hb;exact Mq w
theorem Vk{S:Nat→Prop}(a:Option Addr)(n c:Nat)(bs:List UInt8)(w:World)(hr:ah S w a n (bs.map bv))(hn:n≤100000000):Calls Tryz.prog 123 #[.slice a n c] w (fB w (vE bs)):=by
 obtain⟨i8,hi⟩:∃i,Tryz.prog.info? 5=some i∧i.zero=some (.int .u8 0)∧i.size=1∧i.bytes=1:=aam (by kernel_rfl);have HI:=acr hi;have hln:bs.length=n:=by simpa using hr.length
 have OL:=acr hln;have Yj:=acr (show(w.alloc (.cells #[] 5)).ownsRow w.heap.size 5 1 (.slice (some ⟨w.heap.size,0,none⟩) 0 0) 0 []from World.ownsRow_lit w #[] 0 acu (by decide) rfl);have Yk:acs (ah S (w.alloc (.cells #[] 5)) a n (bs.map bv)):=hr.below (wall w _) acu;have Bu:=acr (wall w (.cells #[] 5));have ZX:(w.alloc (.cells #[] 5)).heap.size=w.heap.size+1:=by simp
 have HSK:=acr Kq;clear hr hi hln;go_enter Tryz.func123,Tryz.ntmps123;go_wp2_with (at_builtin;go_loud (first|(refine aQ rfl _ _ 28 rfl w.heap.size 5 i8 _ 1 Tryz.underlying28 HI.o.1 HI.o.2.1 HI.o.2.2.1 HI.o.2.2.2 rfl _ 0 [] rfl Yj.o a n c (bs.map bv) rfl Yk.o (dV bs) (by unfold maxLen;omega) (by omega) (by omega) ?_;intro A1 c1 u1 hown1 hg1 _ uQ;simp only[Nat.zero_add,List.nil_append]at hown1 uQ;have G6:=acr (dK hg1 (tY w) Bu.o);have hs1:=G6.o.size;have Ki:=acr (lH (w:=u1) [bv 128] 5 (by unfold maxLen;simp));have HOB:=acr (wL hown1 (.cells #[bv 128] 5));have EO:=acr (wall u1 (.cells #[bv 128] 5));have hzB:(u1.alloc (.cells #[.int .u8 128] 5)).heap.size=u1.heap.size+1:=(by simp);have HLW:=acr (Ec hown1 uQ);clear hown1 hg1 uQ;(try simp only[Nat.zero_add]))|(refine aQ rfl _ _ 28 rfl w.heap.size 5 i8 _ 1 Tryz.underlying28 HI.o.1 HI.o.2.1 HI.o.2.2.1 HI.o.2.2.2 rfl _ n (bs.map bv) rfl HOB.o _ 1 1 [bv 128] rfl Ki.o (dV [128]) (by unfold maxLen;omega) (by omega) (by omega) ?_;intro A2 c2 u2 hown2 hg2 _ Ie;have HG2:=acr (dK hg2 HLW.o (G6.o.trans (EO.o.mono G6.o.size)));have E8:=acr hown2;clear hown2 hg2 Ie)))
 go_loopw [3] (fun v wr=>∃(j:Nat) (a':Option Addr) (c':Nat),v= .slice a' (n+1+j) c'∧j≤oL n∧wr.ownsRow w.heap.size 5 1 (.slice a' (n+1+j) c') (n+1+j) ((bs++[128]++List.replicate j 0).map bv)∧Below w.heap.size w wr) (fun v _=>n+200-(match v with| .slice _ m _=>m|_=>0))
 case atStart=>exact⟨0,A2,c2,rfl,Nat.zero_le _,by simpa using E8.o,HG2.o⟩
 case round=>
  obtain⟨j,a',c',rfl,hj,hown,hb⟩:=hrel;have HO:=acr hown;have HB:=acr hb;have hz:=Qr n;have hsp:=JF n j hj;obtain⟨m,hm⟩:∃m,m=n+1+j:=⟨_,rfl⟩;rw[←hm]at HO hsp⊢;have HM:=acr hm;have hm200:m≤n+65:=by omega
  clear hown hb hm;by_cases hjz:j=oL n
  ·have h56:m%64=56:=hsp.2 hjz;have hd:((m:Int)%64 !=56)=false:=by simp;omega
   have e1:IntKind.u64.wrap (n:Int)=(n:Int):=by simp[IntKind.wrap,IntKind.bits,IntKind.signed];omega
   have e2:IntKind.u64.wrap ((n:Int)*8)=(n:Int)*8:=by simp[IntKind.wrap,IntKind.bits,IntKind.signed];omega
   obtain⟨P,hP⟩:∃P,P=bs++[128]++List.replicate j 0:=⟨_,rfl⟩;rw[←hP]at HO;have HPE:acs (P=bs++[128]++List.replicate (oL bs.length) 0):=by
    show P=_;rw[hP,hjz,OL.o]
   have Me:acs ((m+8)%64=0):=by show(m+8)%64=0;omega
   clear hsp h56 hjz hP;go_wp2_with fail;obtain⟨N,hN⟩:∃N:Int,N=(n:Int)*8:=⟨_,rfl⟩;rw[←hN];have hN0:0≤N:=by omega
   have HN:=acr hN;clear hN e2;obtain⟨wq,rfl⟩:∃wq:World,wq=wr:=⟨_,rfl⟩
   go_loopw [3,5] (fun v kv wr=>∃(k:Nat) (dn:List UInt8) (a1:Option Addr) (c1:Nat),k≤8∧kv= .int .i64 (8*(k:Int)-8)∧dn++eB N k=eB N 8∧dn.length+k=8∧v= .slice a1 (m+dn.length) c1∧wr.ownsRow w.heap.size 5 1 (.slice a1 (m+dn.length) c1) (m+dn.length) ((P++dn).map bv)∧Below w.heap.size w wr) (fun _ kv _=>((intOf kv)+8).toNat)
   case atStart=>exact⟨8,[],a',c',by omega,rfl,rfl,rfl,rfl,by simpa using HO.o,HB.o⟩
   case round=>
    obtain⟨k,dn,a1,c1,hk,rfl,hdn,hdl,rfl,hown,hB⟩:=hrel;have Ck:=acr hdn;have WR:=acr hown;have HB3:=acr hB;have SL:=hB.size;clear hdn hown hB;cases k with
    |zero=>
     have e0:8*((0:Nat):Int)-8= -8:=by omega
     rw[e0];have hdn8:dn=eB N 8:=by
      have h9:dn++[]=eB N 8:=Ck.o
      rwa [aaA]at h9
     have HPAD:acs (P++dn=uS bs bs.length):=by
      show P++dn=uS bs bs.length;unfold uS;rw[HPE.o,hdn8,HN.o,OL.o]
     have hdl8:dn.length=8:=by omega
     rw[hdl8,HPAD.o]at WR;rw[hdl8];obtain⟨X,hX⟩:∃X,X=uS bs bs.length:=⟨_,rfl⟩;rw[←hX]at WR;have HX:=acr hX;obtain⟨NB,hNB⟩:∃NB,NB=(m+8)/64:=⟨_,rfl⟩;obtain⟨M,hMe⟩:∃M,M=m+8:=⟨_,rfl⟩;have ZK:acs (M=64*NB):=by show M=64*NB;have:=Me.o;omega
     have hMle:M≤100000100:=by omega
     rw[←hMe]at WR⊢;clear hdn8 hdl hdl8 hX hNB hMe e0;go_upto_region 10 with(fail);go_wp2_with (first|(refine Ah (v:= .agg xK) rfl 218 _ rfl (by kernel_rfl) ?_)|(refine rZ rfl 218 _ _ rfl (HSK.o _ _ (by simp)) ?_));have Yt:=HB3.o.size;have hBs3:=HB3.o.size;have hT8:=(MapKept.heap_alloc wr (.cells (IQ.map jy).toArray 217)).1;have hT64:=(MapKept.heap_alloc (wr.alloc (.cells (IQ.map jy).toArray 217)) (.cells xK 218)).1;have hBk:=wall (wr.alloc (.cells (IQ.map jy).toArray 217)) (.cells xK 218);have hz8:(wr.alloc (.cells (IQ.map jy).toArray 217)).heap.size=wr.heap.size+1:=by simp
     have hBw:Below wr.heap.size wr ((wr.alloc (.cells (IQ.map jy).toArray 217)).alloc (.cells xK 218)):=(wall wr _).trans (hBk.mono (by rw[hz8];omega));obtain⟨w1,hw1⟩:∃w1:World,w1=(wr.alloc (.cells #[.int .u32 1779033703,.int .u32 3144134277,.int .u32 1013904242,.int .u32 2773480762,.int .u32 1359893119,.int .u32 2600822924,.int .u32 528734635,.int .u32 1541459225] 217)).alloc (.cells xK 218):=⟨_,rfl⟩;obtain⟨hb,hhb⟩:∃hb,hb=wr.heap.size:=⟨_,rfl⟩;have hH1:w1.heap[hb]? =some (.cells (IQ.map jy).toArray 217 (0,0)):=by rw[hw1,hhb];exact(hBk.block _ (by rw[hz8];omega)).trans hT8
     have hK1:w1.heap[hb+1]? =some (.cells xK 218 (0,0)):=by rw[hw1,hhb,←hz8];exact hT64
     have hB1:Below w.heap.size w w1:=by rw[hw1];exact HB3.o.trans (hBw.mono hBs3)
     have hO1:ah (fun b=>b<hb) w1 a1 M (X.map bv):=by
      obtain⟨-,-,hr1⟩:=ah.Ol WR.o (by unfold maxLen;omega);rw[aaK]at hr1;rw[hw1,hhb];exact(hr1.below hBw acu).mono fun b hb=>hb.2
     have hhw:w.heap.size≤hb:=by rw[hhb];exact hBs3
     rw[←hw1,←hhb];have QA:=acr hH1;have yV:=acr hK1;have HB1:=acr hB1;have wI:=acr hO1;clear hT8 hT64 hBk hz8 hBw hw1 hhb hH1 hK1 hB1 hO1 hBs3
     go_loopw [8] (fun v wx=>∃(k p:Nat),v= .int .i64 p∧p=64*k∧k≤NB∧wx.heap[hb]? =some (.cells ((runM IQ k X).map jy).toArray 217 (0,0))∧Keeps (fun b=>b=hb) w1 wx) (fun v _=>M-(intOf v).toNat)
     case atStart=>exact⟨0,0,rfl,rfl,Nat.zero_le _,QA.o,Keeps.refl _ _⟩
     case round=>
      obtain⟨k,p,rfl,hp,hk,hh,hKx⟩:=hrel;have h8:=yY k IQ X rfl;have hnn:=OT k IQ X h0M_nn;obtain⟨H,hH⟩:∃H,H=runM IQ k X:=⟨_,rfl⟩;rw[←hH]at hh h8 hnn;have Kr:=acr hH;have HHX:=acr hh;have Z0:=acr hKx;have H8:=acr h8;have pq:=acr hnn;have HP:=acr hp;have hpM:p≤64*NB:=by omega
      clear hh hKx h8 hnn hH;by_cases hlt:k<NB
      ·have hd:decide (p<M)=true:=by have:=ZK.o;simp;omega
       have hpk:p+64≤M:=by have:=ZK.o;omega
       have ht:(p:Int)<(M:Int):=by omega
       obtain⟨wo,rfl⟩:∃wo:World,wo=wr:=⟨_,rfl⟩;clear hp;go_wp2_with fail;obtain⟨blk,hblk⟩:∃blk,blk=(X.drop p).take 64:=⟨_,rfl⟩;have HBLK:=acr hblk;clear hblk
       go_loopw [10,11,12] (fun iv _ _ wx=>∃j:Nat,iv= .int .i64 j∧j≤64∧wx.heap[wo.heap.size]? =some (.cells (Mj (rP blk j)) 218 (0,0))∧Below wo.heap.size wo wx) (fun iv _ _ _=>64-(intOf iv).toNat)
       case atStart=>exact⟨0,rfl,by omega,(MapKept.heap_alloc wo _).1,wall wo _⟩
       case round=>
        obtain⟨j,rfl,hj,hw,hbx⟩:=hrel;have hwl:=Vg blk j;by_cases h64:j<64
        ·have hd:decide ((j:Int)<64)=true:=by simp;omega
         have hz:=XH hw (Nat.le_of_eq hwl) h64;have hfz:wr.frozen? ⟨wo.heap.size,j,none⟩=false:=by simp[World.frozen?,hw]
         have HW:=acr hw;have qN:=acr hbx;have HWL:=acr hwl;have j64:(j:Int)<64:=by omega
         have j0:(0:Int)≤(j:Int):=by omega
         have htj:((j:Int)).toNat=j:=by omega
         by_cases h16:j<16
         ·as_aux_lemma=>
          have hd16:decide ((j:Int)<16)=true:=by simp;omega
          have hrow:ah (fun b=>b<hb) wr a1 M (X.map bv):=wI.o.move (aax Z0.o.size hbx.size) fun b hb' hbw=>⟨hb',(hbx.block b (Nat.lt_of_lt_of_le hbw Z0.o.size)).trans (Z0.o.block b hbw (fun e:b=hb=>by omega))⟩;obtain⟨rb,ro,rfl,hrs,hrb,hrc⟩:=hrow.at_ (by omega);obtain⟨q,hq⟩:∃q,q=p+4*j:=⟨_,rfl⟩;obtain⟨q1,hq1⟩:∃q1,q1=q+1:=⟨_,rfl⟩;obtain⟨q2,hq2⟩:∃q2,q2=q+2:=⟨_,rfl⟩;obtain⟨q3,hq3⟩:∃q3,q3=q+3:=⟨_,rfl⟩;have l0:q<M:=by omega
          have l1:q1<M:=by omega
          have l2:q2<M:=by omega
          have l3:q3<M:=by omega
          have c0:=zy hrow l0;have c1:=zy hrow l1;have c2:=zy hrow l2;have c3:=zy hrow l3;have ew:IntKind.i64.wrap (4*(j:Int))=4*(j:Int):=aag _ (by omega);have eq0:IntKind.i64.wrap ((p:Int)+4*(j:Int))=(q:Int):=by rw[aag _ (by omega)];omega
          have eq1:IntKind.i64.wrap ((q:Int)+1)=(q1:Int):=by rw[aag _ (by omega)];omega
          have eq2:IntKind.i64.wrap ((q:Int)+2)=(q2:Int):=by rw[aag _ (by omega)];omega
          have eq3:IntKind.i64.wrap ((q:Int)+3)=(q3:Int):=by rw[aag _ (by omega)];omega
          have i0:(q:Int)<(M:Int):=by omega
          have i1:(q1:Int)<(M:Int):=by omega
          have i2:(q2:Int)<(M:Int):=by omega
          have i3:(q3:Int)<(M:Int):=by omega
          have HWD:acs (Bh blk j=Dv (X.getD q 0) (X.getD q1 0) (X.getD q2 0) (X.getD q3 0)):=by
           show Bh blk j=_;rw[HBLK.o,Yq X p j h16,hq1,hq2,hq3,hq]
          generalize X.getD q 0=b0 at*;generalize X.getD q1 0=b1 at*;generalize X.getD q2 0=b2 at*;generalize X.getD q3 0=b3 at*;clear hq hq1 hq2 hq3 hrow hrs hrb hrc hw hbx hwl;go_wp2_with fail;refine wQ 43 ((fun w'=>(w'.cell? ⟨rb,ro+q,none⟩=some (.int .u8 (b0.toNat:Int))∧w'.cell? ⟨rb,ro+q1,none⟩=some (.int .u8 (b1.toNat:Int))∧w'.cell? ⟨rb,ro+q2,none⟩=some (.int .u8 (b2.toNat:Int))∧w'.cell? ⟨rb,ro+q3,none⟩=some (.int .u8 (b3.toNat:Int)))∧w'.cell? ⟨wo.heap.size,j,none⟩=some (.int .u32 0)∧w'.frozen? ⟨wo.heap.size,j,none⟩=false)) ?_ fun hS=> ?_
          ·exact⟨⟨c0,c1,c2,c3⟩,hz,hfz⟩
          refine aC 0 hS ?_;refine aC 1 hS ?_;refine aC 2 hS ?_;refine aC 3 hS ?_;refine aC 4 hS ?_;refine aC 5 hS ?_;refine aC 6 hS ?_;refine aC 7 hS ?_;refine aC 8 hS ?_;refine aC 9 hS ?_;refine aC 10 hS ?_;refine aC 11 hS ?_;refine aC 12 hS ?_;refine aC 13 hS ?_;refine aC 14 hS ?_;refine aC 15 hS ?_;refine aC 16 hS ?_;refine aC 17 hS ?_;refine aC 18 hS ?_;refine aC 19 hS ?_;refine aC 20 hS ?_;refine aC 21 hS ?_;refine aC 22 hS ?_;refine aC 23 hS ?_;refine aC 24 hS ?_;refine aC 25 hS ?_;refine aC 26 hS ?_;refine aC 27 hS ?_;refine aC 28 hS ?_;refine aC 29 hS ?_;refine aC 30 hS ?_;refine aC 31 hS ?_;refine aC 32 hS ?_;refine aC 33 hS ?_;refine aC 34 hS ?_;refine aC 35 hS ?_;refine aC 36 hS ?_;refine aC 37 hS ?_;refine aC 38 hS ?_;refine aC 39 hS ?_;refine aC 40 hS ?_;refine aC 41 hS ?_;refine aC 42 hS ?_;refine bU 43 fun K hK=> ?_;go_simp;refine nk hK ?_;clear hS hK K;go_wp2_with fail;go_roundw
          case rel=>
           refine⟨j+1,by go_num,by omega,?_,?_⟩
           ·have h9:=Uc (w:=wr.drew) HW.o (by rw[HWL.o];omega) (Bh blk j);rw[HWL.o,←OP blk h16,HWD.o,←Vj]at h9;exact h9
           ·exact FX (hBQD qN.o) qN.o.size acu _ _
          case measure=>simp[intOf];omega
         ·as_aux_lemma=>
          have hd16:decide ((j:Int)<16)=false:=by simp;omega
          have s15:=yZ hw (show j-15<_ by rw[hwl];omega);have s2:=yZ hw (show j-2<_ by rw[hwl];omega);have s16:=yZ hw (show j-16<_ by rw[hwl];omega);have s7:=yZ hw (show j-7<_ by rw[hwl];omega);have e15:IntKind.i64.wrap ((j:Int)-15)=(j:Int)-15:=aag _ (by omega);have e2:IntKind.i64.wrap ((j:Int)-2)=(j:Int)-2:=aag _ (by omega);have e16:IntKind.i64.wrap ((j:Int)-16)=(j:Int)-16:=aag _ (by omega);have e7:IntKind.i64.wrap ((j:Int)-7)=(j:Int)-7:=aag _ (by omega);have n15:((j:Int)-15).toNat=j-15:=by omega
          have n2:((j:Int)-2).toNat=j-2:=by omega
          have n16:((j:Int)-16).toNat=j-16:=by omega
          have n7:((j:Int)-7).toNat=j-7:=by omega
          have g15:(0:Int)≤(j:Int)-15:=by omega
          have g2':(0:Int)≤(j:Int)-2:=by omega
          have g16:(0:Int)≤(j:Int)-16:=by omega
          have g7:(0:Int)≤(j:Int)-7:=by omega
          have l15:(j:Int)-15<64:=by omega
          have l2:(j:Int)-2<64:=by omega
          have l16:(j:Int)-16<64:=by omega
          have l7:(j:Int)-7<64:=by omega
          have q16:(16:Int)≤(j:Int):=by omega
          have q7:(7:Int)≤(j:Int):=by omega
          have hn:=Ih blk j;have p15:=nY hn (j-15);have p2:=nY hn (j-2);clear hn;obtain⟨w15,hw15⟩:∃z,z=(rP blk j).getD (j-15) 0:=⟨_,rfl⟩;obtain⟨w2,hw2⟩:∃z,z=(rP blk j).getD (j-2) 0:=⟨_,rfl⟩;obtain⟨w16,hw16⟩:∃z,z=(rP blk j).getD (j-16) 0:=⟨_,rfl⟩;obtain⟨w7,hw7⟩:∃z,z=(rP blk j).getD (j-7) 0:=⟨_,rfl⟩;rw[←hw15]at s15 p15;rw[←hw2]at s2 p2;rw[←hw16]at s16;rw[←hw7]at s7;have HWS:=acr (And.intro hw15 (And.intro hw2 (And.intro hw16 hw7)));have r7:acs (∀(x:Int) (w:World),0≤x→Calls Tryz.prog 178 #[.int .u32 x,.int .u64 7] w fun e w'=>e= .returned (.int .u32 (lu x 25))∧w=w'):=fun x w h=>rt 7 rfl x w h (by omega) (by omega);have r18:acs (∀(x:Int) (w:World),0≤x→Calls Tryz.prog 178 #[.int .u32 x,.int .u64 18] w fun e w'=>e= .returned (.int .u32 (lu x 14))∧w=w'):=fun x w h=>rt 18 rfl x w h (by omega) (by omega);have r17:acs (∀(x:Int) (w:World),0≤x→Calls Tryz.prog 178 #[.int .u32 x,.int .u64 17] w fun e w'=>e= .returned (.int .u32 (lu x 15))∧w=w'):=fun x w h=>rt 17 rfl x w h (by omega) (by omega);have r19:acs (∀(x:Int) (w:World),0≤x→Calls Tryz.prog 178 #[.int .u32 x,.int .u64 19] w fun e w'=>e= .returned (.int .u32 (lu x 13))∧w=w'):=fun x w h=>rt 19 rfl x w h (by omega) (by omega);clear hw15 hw2 hw16 hw7 hw hbx hwl;go_wp2_with fail
          go_quiet (fail)
          have t16:(wr.drewN nq).cell? ⟨wo.heap.size,j-16,none⟩=some (.int .u32 w16):=s16;have t7:(wr.drewN nq).cell? ⟨wo.heap.size,j-7,none⟩=some (.int .u32 w7):=s7;have tz:(wr.drewN nq).cell? ⟨wo.heap.size,j,none⟩=some (.int .u32 0):=hz;have tf:(wr.drewN nq).frozen? ⟨wo.heap.size,j,none⟩=false:=hfz;have hWQ:(wr.drewN nq).heap[wo.heap.size]? =some (.cells (Mj (rP blk j)) 218 (0,0)):=HW.o;have hBQ:Below wo.heap.size wo (wr.drewN nq):=⟨qN.o.os,qN.o.tape,qN.o.output,qN.o.size,qN.o.block⟩;generalize wr.drewN nq=wq at*;have HWQ:=acr hWQ;have Z4:=acr hBQ;clear hWQ hBQ s15 s2 s16 s7 hz hfz;go_wp2_with fail;refine wQ 29 ((fun w'=>w'.cell? ⟨wo.heap.size,j-16,none⟩=some (.int .u32 w16)∧w'.cell? ⟨wo.heap.size,j-7,none⟩=some (.int .u32 w7)∧w'.cell? ⟨wo.heap.size,j,none⟩=some (.int .u32 0)∧w'.frozen? ⟨wo.heap.size,j,none⟩=false)) ?_ fun hS=> ?_
          ·exact⟨t16,t7,tz,tf⟩
          refine aC 0 hS ?_;refine aC 1 hS ?_;refine aC 2 hS ?_;refine aC 3 hS ?_;refine aC 4 hS ?_;refine aC 5 hS ?_;refine aC 7 hS ?_;refine aC 10 hS ?_;refine aC 11 hS ?_;refine aC 14 hS ?_;refine aC 15 hS ?_;refine aC 16 hS ?_;refine aC 17 hS ?_;refine aC 19 hS ?_;refine aC 21 hS ?_;refine aC 24 hS ?_;refine aC 25 hS ?_;refine bU 6 fun K hK=> ?_;go_simp;refine(r7.o _ _ p15).mono ?_;rintro e w5 ⟨rfl,rfl⟩;go_wp2_with fail;refine bV hK (hS) fun hS=> ?_;clear hK K;refine bU 8 fun K hK=> ?_;go_simp;refine(r18.o _ _ p15).mono ?_;rintro e w5 ⟨rfl,rfl⟩;go_wp2_with fail;refine bV hK (hS) fun hS=> ?_;clear hK K;refine aC 9 hS ?_;refine aC 12 hS ?_;refine aC 13 hS ?_;refine aC 18 hS ?_;refine bU 20 fun K hK=> ?_;go_simp;refine(r17.o _ _ p2).mono ?_;rintro e w5 ⟨rfl,rfl⟩;go_wp2_with fail;refine bV hK (hS) fun hS=> ?_;clear hK K;refine bU 22 fun K hK=> ?_;go_simp;refine(r19.o _ _ p2).mono ?_;rintro e w5 ⟨rfl,rfl⟩;go_wp2_with fail;refine bV hK (hS) fun hS=> ?_;clear hK K;refine aC 23 hS ?_;refine aC 26 hS ?_;refine aC 27 hS ?_;refine aC 28 hS ?_;refine bU 29 fun K hK=> ?_;go_simp;refine nk hK ?_;clear hS hK K;go_wp2_with fail;go_roundw
          case rel=>
           refine⟨j+1,by go_num,by omega,?_,?_⟩
           ·have h9:=Uc (w:=wq.drew) HWQ.o (by rw[HWL.o];omega) (JE (rP blk j));have e9:JE (rP blk j)=Ot (Ot (Ot (w16+sg0 w15)+w7)+sg1 w2):=by
             unfold JE;rw[HWL.o,HWS.o.1,HWS.o.2.1,HWS.o.2.2.1,HWS.o.2.2.2]
            rw[HWL.o,←OQ blk (by omega),e9]at h9;exact h9
           ·exact FX (hBQD Z4.o) Z4.o.size acu _ _
          case measure=>simp[intOf];omega
        ·have hd:decide ((j:Int)<64)=false:=by simp;omega
         have hj64:j=64:=by omega
         rw[hj64,Vh]at hw;obtain⟨ws,hws⟩:∃ws,ws=oK blk 48:=⟨_,rfl⟩;rw[←hws]at hw;have hwsl:ws.length=64:=by rw[hws,xI]
         have HWSE:=acr hws;have Rx:hb<wo.heap.size:=(iL.1 HHX.o).1;have hrh:wr.heap[hb]? =some (.cells (H.map jy).toArray 217 (0,0)):=(hbx.block hb Rx).trans HHX.o;have h1o:=Z0.o.size;have hk1:hb+1<w1.heap.size:=(iL.1 yV.o).1;have XD:wr.heap[hb+1]? =some (.cells xK 218 (0,0)):=(hbx.block (hb+1) (by omega)).trans ((Z0.o.block (hb+1) hk1 (fun e:hb+1=hb=>by omega)).trans yV.o);have hKr:Keeps (fun b=>b=hb) w1 wr:=Z0.o.trans (Keeps.below hbx) fun x hx hx'=>absurd hx (by have:wo.heap.size≤x:=hx';omega);obtain⟨wb,hwb⟩:∃wb,wb=wo.heap.size:=⟨_,rfl⟩;rw[←hwb]at hw Rx⊢;have hwbr:wb<wr.heap.size:=(iL.1 hw).1;have h1b:w1.heap.size≤wb:=by omega
         have hS8:(Tryz.prog.info? 217).map (·.size)=some (H.map jy).toArray.size:=by
          rw[show(H.map jy).toArray.size=8 by simp[H8.o]];kernel_rfl
         have Lc:=acr hS8;have Yu:acs (∀(w:World) (b:Nat),b=w.heap.size→(Instr.storeAt 217 (.pointer (some ⟨b,0,none⟩)) (.agg (H.map jy).toArray)).run Tryz.prog (w.alloc (.cells #[.int .u32 0,.int .u32 0,.int .u32 0,.int .u32 0,.int .u32 0,.int .u32 0,.int .u32 0,.int .u32 0] 217))= .ok () (w.alloc (.cells (H.map jy).toArray 217))):=fun w b hb=>by
          subst hb;exact run_storeAt_new w 217 _ _ hS8 (by simp[H8.o]) (Yr H)
         have HRH:=acr hrh;have XE:=acr XD;have HW:=acr hw;have Gt:=acr hKr;clear hj64 hw hrh XD hKr hwb hbx hwl hj h64 hws hS8;go_wp2_with (first|(refine wpList_load_row rfl 217 _ rfl hb rfl 217 (H.map jy).toArray (0,0) _ HRH.o Tryz.underlying217 rfl Lc.o ?_)|(refine rZ rfl 217 _ _ rfl (Yu.o _ _ (by simp)) ?_));have hbA:=wall wr (.cells (H.map jy).toArray 217);have hsA:=(MapKept.heap_alloc wr (.cells (H.map jy).toArray 217)).1;have ZX:(wr.alloc (.cells (H.map jy).toArray 217)).heap.size=wr.heap.size+1:=by simp
         have hhr:hb+1<wr.heap.size:=(iL.1 XE.o).1;obtain⟨sb,hsb⟩:∃sb,sb=wr.heap.size:=⟨_,rfl⟩;rw[←hsb]at hsA ZX⊢;obtain⟨wA,hwA⟩:∃wA:World,wA=wr.alloc (.cells (H.map jy).toArray 217):=⟨_,rfl⟩;rw[←hwA]at hbA hsA ZX⊢;have hwW:wA.heap[wb]? =some (.cells (Mj ws) 218 (0,0)):=(hbA.block wb hwbr).trans HW.o;have hwK:wA.heap[hb+1]? =some (.cells xK 218 (0,0)):=(hbA.block (hb+1) hhr).trans XE.o;have hwH:wA.heap[hb]? =some (.cells (H.map jy).toArray 217 (0,0)):=(hbA.block hb (by omega)).trans HRH.o;have hKA:Keeps (fun b=>b=hb) w1 wA:=Gt.o.trans (Keeps.below hbA) fun x hx hx'=>absurd hx (by have:wr.heap.size≤x:=hx';have:=Gt.o.size;omega);have hsbb:wb<sb∧hb+1<sb:=by omega
         have HWW:=acr hwW;have HWKK:=acr hwK;have HWH:=acr hwH;have HKA:=acr hKA;have HSA:=acr hsA;have HZA:=acr ZX;have Xa:acs ((H.map jy).toArray=((xJ.of H).list.map jy).toArray):=by
          show(H.map jy).toArray=_;obtain⟨x0,x1,x2,x3,x4,x5,x6,x7,he⟩:=eight H8.o;rw[he];rfl
         have QL:=acr (xJ.of_nn pq.o);have r6:acs (∀(x:Int) (w:World),0≤x→Calls Tryz.prog 178 #[.int .u32 x,.int .u64 6] w fun e w'=>e= .returned (.int .u32 (lu x 26))∧w=w'):=fun x w h=>rt 6 rfl x w h (by omega) (by omega);have r11:acs (∀(x:Int) (w:World),0≤x→Calls Tryz.prog 178 #[.int .u32 x,.int .u64 11] w fun e w'=>e= .returned (.int .u32 (lu x 21))∧w=w'):=fun x w h=>rt 11 rfl x w h (by omega) (by omega);have r25:acs (∀(x:Int) (w:World),0≤x→Calls Tryz.prog 178 #[.int .u32 x,.int .u64 25] w fun e w'=>e= .returned (.int .u32 (lu x 7))∧w=w'):=fun x w h=>rt 25 rfl x w h (by omega) (by omega);have r2:acs (∀(x:Int) (w:World),0≤x→Calls Tryz.prog 178 #[.int .u32 x,.int .u64 2] w fun e w'=>e= .returned (.int .u32 (lu x 30))∧w=w'):=fun x w h=>rt 2 rfl x w h (by omega) (by omega);have r13:acs (∀(x:Int) (w:World),0≤x→Calls Tryz.prog 178 #[.int .u32 x,.int .u64 13] w fun e w'=>e= .returned (.int .u32 (lu x 19))∧w=w'):=fun x w h=>rt 13 rfl x w h (by omega) (by omega);have r22:acs (∀(x:Int) (w:World),0≤x→Calls Tryz.prog 178 #[.int .u32 x,.int .u64 22] w fun e w'=>e= .returned (.int .u32 (lu x 10))∧w=w'):=fun x w h=>rt 22 rfl x w h (by omega) (by omega);clear hwW hwK hwH hKA hsA ZX hbA hwA hsb
         go_loopw [14] (fun iv wx=>∃(i:Nat) (st:xJ),iv= .int .i64 i∧i≤64∧st=ru (xJ.of H) ws i∧wx.heap[sb]? =some (.cells (st.list.map jy).toArray 217 (0,0))∧Keeps (fun b=>b=sb) wA wx) (fun iv _=>64-(intOf iv).toNat)
         case atStart=>exact⟨0,xJ.of H,rfl,by omega,rfl,by rw[←Xa.o];exact HSA.o,Keeps.refl _ _⟩
         case round=>
          obtain⟨i,⟨sa,sc,sd,se,sf,sg,sh,sj⟩,rfl,hi,hst,hsx,hKs⟩:=hrel;have HST:=acr hst;have HSX:=acr hsx;have HKS:=acr hKs;by_cases hi64:i<64
          ·skip
           have hd:decide ((i:Int)<64)=true:=by simp;omega
           obtain⟨ww,hww⟩:∃ww,ww=ws.getD i 0:=⟨_,rfl⟩;obtain⟨kk,hkk⟩:∃kk,kk=kM.getD i 0:=⟨_,rfl⟩;have hzz:=HZA.o;have hbW:wr.heap[wb]? =some (.cells (Mj ws) 218 (0,0)):=(hKs.block wb (by omega) (fun e:wb=sb=>by omega)).trans HWW.o;have hbK:wr.heap[hb+1]? =some (.cells xK 218 (0,0)):=(hKs.block (hb+1) (by omega) (fun e:hb+1=sb=>by omega)).trans HWKK.o;have EP:acs (∀w':World,w'.heap[sb]? =wr.heap[sb]? →w'.cell? ⟨sb,0,none⟩=some (.int .u32 sa)∧w'.cell? ⟨sb,1,none⟩=some (.int .u32 sc)∧w'.cell? ⟨sb,2,none⟩=some (.int .u32 sd)∧w'.cell? ⟨sb,3,none⟩=some (.int .u32 se)∧w'.cell? ⟨sb,4,none⟩=some (.int .u32 sf)∧w'.cell? ⟨sb,5,none⟩=some (.int .u32 sg)∧w'.cell? ⟨sb,6,none⟩=some (.int .u32 sh)∧w'.cell? ⟨sb,7,none⟩=some (.int .u32 sj)):=fun w' h=>by
            rw[hsx]at h;refine⟨?_,?_,?_,?_,?_,?_,?_,?_⟩<;>simp[World.cell?,h,xJ.list]
           have HCW:acs (∀w':World,w'.heap[wb]? =wr.heap[wb]? →w'.cell? ⟨wb,i,none⟩=some (.int .u32 ww)):=fun w' h=>by
            rw[hww];exact yZ (h.trans hbW) (by rw[hwsl];exact hi64)
           have HCK:acs (∀w':World,w'.heap[hb+1]? =wr.heap[hb+1]? →w'.cell? ⟨hb+1,i,none⟩=some (.int .u32 kk)):=fun w' h=>by
            rw[hkk];exact Rw (h.trans hbK) hi64
           have hNN:=xJ.Gs QL.o ws i;rw[←hst]at hNN;have pf:0≤sf:=hNN.f;have pa:0≤sa:=hNN.a;have HWK:=acr (And.intro hww hkk);have li:(i:Int)<64:=by omega
           have i0:(0:Int)≤(i:Int):=by omega
           have hti:((i:Int)).toNat=i:=by omega
           have hsw:sb<wr.heap.size:=(iL.1 hsx).1;obtain⟨c0,c1,c2,c3,c4,c5,c6,c7⟩:=EP.o wr rfl;clear hww hkk hst hsx hKs hbW hbK hNN;go_wp2_with fail
           go_quiet (fail)
           clear c0 c1 c2 c3 c4 c5 c6 c7;have Yv:acs (∀b:Nat,(wr.drewN nq).heap[b]? =wr.heap[b]?):=fun b=>rfl;have HKQ1:acs (Keeps (fun _=>False) wr (wr.drewN nq)):=⟨rfl,rfl,rfl,Nat.le_refl _,fun _ _ _=>rfl⟩;generalize wr.drewN nq=wq at*;obtain⟨c0,c1,c2,c3,c4,c5,c6,c7⟩:=EP.o wq (Yv.o _);have cw:=HCW.o wq (Yv.o _);have ck:=HCK.o wq (Yv.o _);go_wp2_with fail
           go_quiet ((go_at_call 178;first|(with_reducible exact Calls.quiet_of_same (pQ (r6.o sf _ pf)))|(with_reducible exact Calls.quiet_of_same (pQ (r11.o sf _ pf)))|(with_reducible exact Calls.quiet_of_same (pQ (r25.o sf _ pf)))))
           clear c0 c1 c2 c3 c4 c5 c6 c7 cw ck;have HBQ2:acs (∀b:Nat,(wq.drewN nq).heap[b]? =wr.heap[b]?):=fun b=>Yv.o b;have HKQ2:acs (Keeps (fun _=>False) wr (wq.drewN nq)):=HKQ1.o.trans (show Keeps (fun _=>False) wq (wq.drewN nq)from⟨rfl,rfl,rfl,Nat.le_refl _,fun _ _ _=>rfl⟩) fun x _ hx=>hx;generalize wq.drewN nq=wq2 at*;obtain⟨c0,c1,c2,c3,c4,c5,c6,c7⟩:=EP.o wq2 (HBQ2.o _);go_wp2_with fail
           go_quiet ((go_at_call 178;first|(with_reducible exact Calls.quiet_of_same (pQ (r2.o sa _ pa)))|(with_reducible exact Calls.quiet_of_same (pQ (r13.o sa _ pa)))|(with_reducible exact Calls.quiet_of_same (pQ (r22.o sa _ pa)))))
           clear c0 c1 c2 c3 c4 c5 c6 c7;have HBQ3:acs (∀b:Nat,(wq2.drewN nq).heap[b]? =wr.heap[b]?):=fun b=>HBQ2.o b;have HKQ3:acs (Keeps (fun _=>False) wr (wq2.drewN nq)):=HKQ2.o.trans (show Keeps (fun _=>False) wq2 (wq2.drewN nq)from⟨rfl,rfl,rfl,Nat.le_refl _,fun _ _ _=>rfl⟩) fun x _ hx=>hx;generalize wq2.drewN nq=wq3 at*;obtain⟨c0,c1,c2,c3,c4,c5,c6,c7⟩:=EP.o wq3 (HBQ3.o _);have Bb:=acr ((HBQ3.o sb).trans HSX.o);go_wp2_with (refine aJ rfl 217 _ _ rfl sb _ rfl rfl _ Bb.o (by kernel_rfl) (by kernel_rfl) (by kernel_rfl) ?_;intro w9 hrs;have Yw:=acr hrs;clear hrs c0 c1 c2 c3 c4 c5 c6 c7);go_roundw
           case rel=>
            refine⟨i+1,Dw ⟨sa,sc,sd,se,sf,sg,sh,sj⟩ kk ww,by go_num,by omega,?_,by rw[Nb];exact Yw.o.1,(HKS.o.trans HKQ3.o fun x _ hx=>False.elim hx).trans Yw.o.2.1 fun x _ hx=>hx⟩;show _=Dw (ru (xJ.of H) ws i) (kM.getD i 0) (ws.getD i 0);rw[←HST.o,HWK.o.1,HWK.o.2]
           case measure=>simp[intOf];omega
          ·have hd:decide ((i:Int)<64)=false:=by simp;omega
           have Z5:i=64:=by omega
           rw[Z5]at hst;obtain⟨L,hL⟩:∃L:List Int,L=(⟨sa,sc,sd,se,sf,sg,sh,sj⟩:xJ).list:=⟨_,rfl⟩;rw[←hL]at hsx;have hL8:L.length=8:=by rw[hL];rfl
           have hLL:L=(ru (xJ.of H) (oK blk 48) 64).list:=by rw[hL,hst,HWSE.o]
           have hzz:=HZA.o;have hhx:wr.heap[hb]? =some (.cells (H.map jy).toArray 217 (0,0)):=(hKs.block hb (by omega) (fun e:hb=sb=>by omega)).trans HWH.o;have hKh:Keeps (fun b=>b=hb) w1 wr:=HKA.o.trans hKs fun x hx (e:x=sb)=>by omega
           have HL8:=acr hL8;have Ho:=acr hLL;have HSX2:=acr hsx;have HHX2:=acr hhx;have HKH:=acr hKh;have HZZ:=acr hzz;clear Z5 hst hL hL8 hLL hsx hhx hKh hKs hi hi64 HST HSX HKS hzz;go_wp2_with fail
           go_loopw [19] (fun iv wx=>∃i:Nat,iv= .int .i64 i∧i≤8∧wx.heap[hb]? =some (.cells (((jG H blk).take i++H.drop i).map jy++[]).toArray 217 (0,0))∧wx.heap[sb]? =some (.cells (L.map jy).toArray 217 (0,0))∧Keeps (fun b=>b=hb) w1 wx) (fun iv _=>8-(intOf iv).toNat)
           case atStart=>exact⟨0,rfl,by omega,by simpa using HHX2.o,HSX2.o,HKH.o⟩
           case round=>
            obtain⟨i,rfl,hi,hhx,hsx,hkx⟩:=hrel;have HHI:=acr hhx;have HSI:=acr hsx;have Yx:=acr hkx;by_cases Ii:i<8
            ·have hd:decide ((i:Int)<8)=true:=by simp;omega
             have Lh:=tu H blk H8.o;obtain⟨x,hx⟩:∃x,x=L.getD i 0:=⟨_,rfl⟩;obtain⟨y,hy⟩:∃y,y=H.getD i 0:=⟨_,rfl⟩;have d1:wr.cell? ⟨sb,i,none⟩=some (.int .u32 x):=by
              rw[hx];have:=FY HL8.o Ii;simp only[World.cell?,hsx];exact this
             have d2:wr.cell? ⟨hb,i,none⟩=some (.int .u32 y):=by
              rw[hy];have:=Ou (A:=jG H blk) (B:=H) (tail:=[]) Lh H8.o Ii;simp only[World.cell?,hhx];exact this
             have df:wr.frozen? ⟨hb,i,none⟩=false:=by simp[World.frozen?,hhx]
             have HXY:=acr (And.intro hx hy);have i8':(i:Int)<8:=by omega
             have i0:(0:Int)≤(i:Int):=by omega
             have hti:((i:Int)).toNat=i:=by omega
             clear hx hy hsx hhx hkx Lh;go_wp2_with fail;refine wQ 9 ((fun w'=>w'.cell? ⟨hb,i,none⟩=some (.int .u32 y)∧w'.cell? ⟨sb,i,none⟩=some (.int .u32 x)∧w'.frozen? ⟨hb,i,none⟩=false)) ?_ fun hS=> ?_
             ·exact⟨d2,d1,df⟩
             refine aC 0 hS ?_;refine aC 1 hS ?_;refine aC 2 hS ?_;refine aC 3 hS ?_;refine aC 4 hS ?_;refine aC 5 hS ?_;refine aC 6 hS ?_;refine aC 7 hS ?_;refine aC 8 hS ?_;refine bU 9 fun K hK=> ?_;go_simp;refine nk hK ?_;clear hS hK K;go_wp2_with fail;go_roundw
             case rel=>
              have Lh:=tu H blk H8.o;have e9:Ot (y+x)=(jG H blk).getD i 0:=by
               rw[Ml H8.o Ii,←Ho.o,HXY.o.1,HXY.o.2]
              refine⟨i+1,by go_num,by omega,?_,?_,?_⟩
              ·rw[←XI Lh H8.o Ii,←e9];exact aO (w:=wr.drew) HHI.o
              ·refine(bA wr.drew ⟨hb,i,none⟩ _ sb ?_).trans HSI.o;show sb≠hb;omega
              ·exact((Yx.o.trans (show Keeps (fun x=>x=hb) wr wr.drew from⟨rfl,rfl,rfl,Nat.le_refl _,fun _ _ _=>rfl⟩) fun x _ hx=>hx).trans (Keeps.gI wr.drew ⟨hb,i,none⟩ _) fun x _ hx=>hx)
             case measure=>simp[intOf];omega
            ·have hd:decide ((i:Int)<8)=false:=by simp;omega
             have SN:i=8:=by omega
             have e1:(jG H blk).take 8=jG H blk:=List.take_of_length_le (by rw[tu H blk H8.o];omega);have e2:H.drop 8=[]:=List.drop_eq_nil_of_le (by rw[H8.o];omega);rw[SN,e1,e2,aaA,aaA]at hhx;have e3:jG H blk=runM IQ (k+1) X:=by rw[FZ,←Kr.o,HBLK.o,HP.o]
             rw[e3]at hhx;have HF:=acr hhx;have ewp:IntKind.i64.wrap ((p:Int)+64)=(p:Int)+64:=aag _ (by omega);clear e1 e2 e3 SN hhx hsx hkx hi Ii;go_wp2_with fail;go_roundw
             case rel=>exact⟨k+1,p+64,by go_num,by have:=HP.o;omega,by omega,HF.o,Yx.o⟩
             case measure=>simp[intOf];omega
      ·have hd:decide (p<M)=false:=by have:=ZK.o;simp;omega
       as_aux_lemma=>
       have hkN:k=NB:=by omega
       have hXl:X.length=M:=by simpa using wI.o.length
       have hRE:Hq H=vE bs:=by
        rw[Vf,←HX.o,hXl,ZK.o,Nat.mul_div_cancel_left _ (by omega),←hkN,Kr.o]
       have uG:=acr hRE;have hwr:w.heap.size≤wr.heap.size:=aax HB1.o.size Z0.o.size;have WO:Below w.heap.size w wr:=HB1.o.trans (Z0.o.gP HB1.o.size fun x hx (e:x=hb)=>by omega);have HBO:=acr WO;obtain⟨wo,rfl⟩:∃wo:World,wo=wr:=⟨_,rfl⟩;have Rx:hb<wo.heap.size:=(iL.1 HHX.o).1;clear hp hkN hXl hRE WO hk hlt hpM;go_wp2_with fail
       go_loopw [20,21] (fun v iv wx=>∃(i:Nat) (a':Option Addr) (c':Nat),v= .slice a' (4*i) c'∧iv= .int .i64 i∧i≤8∧wx.ownsRow wo.heap.size 5 1 v (4*i) ((Hq (H.take i)).map bv)∧Below wo.heap.size wo wx) (fun _ iv _=>8-(intOf iv).toNat)
       case atStart=>exact⟨0,none,0,rfl,rfl,by omega,⟨rfl,.inl ⟨rfl,rfl⟩⟩,Below.refl _ _⟩
       case round=>
        obtain⟨i,a2,c2,rfl,rfl,hi,hown,hbx⟩:=hrel;have Qn:=acr hown;have uR:=acr hbx;by_cases Ii:i<8
        ·have hd:decide ((i:Int)<8)=true:=by simp;omega
         obtain⟨z,hz⟩:∃z,z=H.getD i 0:=⟨_,rfl⟩;have hcz:wr.cell? ⟨hb,i,none⟩=some (.int .u32 z):=by
          rw[hz];exact hA_get H8.o ((hbx.block hb Rx).trans HHX.o) Ii
         have HCZ:acs (∀w',Below wr.heap.size wr w'→w'.cell? ⟨hb,i,none⟩=some (.int .u32 z)):=fun w' h=>(h.cell (p:=⟨hb,i,none⟩) (Nat.lt_of_lt_of_le Rx hbx.size)).trans hcz;have HZ:=acr hz;have i8':(i:Int)<8:=by omega
         have i0:(0:Int)≤(i:Int):=by omega
         have hti:((i:Int)).toNat=i:=by omega
         clear hz hown hbx hcz;go_wp2_with fail;refine wQ 22 ((fun w'=>w'.cell? ⟨hb,i,none⟩=some (.int .u32 z))) ?_ fun hS=> ?_
         ·exact HCZ.o _ acv.drew
         refine aC 0 hS ?_;refine aC 1 hS ?_;refine aC 2 hS ?_;refine aC 3 hS ?_;refine aC 4 hS ?_;refine aC 5 hS ?_;refine aC 6 hS ?_;refine aC 7 hS ?_;refine aC 8 hS ?_;refine aC 9 hS ?_;refine aC 10 hS ?_;refine aC 11 hS ?_;refine aC 12 hS ?_;refine aC 13 hS ?_;refine aC 14 hS ?_;refine aC 15 hS ?_;refine aC 16 hS ?_;refine aC 17 hS ?_;refine aC 18 hS ?_;refine aC 19 hS ?_;refine bU 20 fun K hK=> ?_;go_simp;refine bV hK (HCZ.o _ (acv.drew.alloc acu _)) fun hS=> ?_;clear hK K;refine bU 21 fun K hK=> ?_;refine au (by rfl) (.tmp 244) (.tmp 264) 28 (by rfl) wo.heap.size 5 i8 _ 1 1 Tryz.underlying28 HI.o.1 HI.o.2.1 HI.o.2.2.1 HI.o.2.2.2 rfl (by omega) _ (4*i) ((Hq (H.take i)).map bv) (by rfl) (fG Qn.o fun b hb hbw=>(wall wr.drew _).block b hbw) _ 4 _ [.int .u8 (z/16777216%256),.int .u8 (z/65536%256),.int .u8 (z/256%256),.int .u8 (z%256)] (by rfl) (lH (w:=wr.drew) [.int .u8 (z/16777216%256),.int .u8 (z/65536%256),.int .u8 (z/256%256),.int .u8 (z%256)] 5 (by simp[maxLen])) (by simp[Value.oneCell']) (by unfold maxLen;omega) (by omega) (by have:=uR.o.size;simp;omega) ?_;intro A9 c9 w9 vP eH;have Dk:=acr ((uR.o.trans (((Below.refl wr.heap.size wr).drew.alloc acu _).mono uR.o.size)).trans eH);have HO9:=acr vP;refine bV hK ((eH.cell (p:=⟨hb,i,none⟩) Rx).trans (HCZ.o _ (acv.drew.alloc acu _))) fun hS=> ?_;clear hK K;clear vP eH;refine bU 22 fun K hK=> ?_;go_simp;refine nk hK ?_;clear hS hK K;go_wp2_with fail;go_roundw
         case rel=>
          have e9:4*(i+1)=4*i+4:=by omega
          refine⟨i+1,A9,c9,by rw[e9],by go_num,by omega,?_,Dk.o⟩;rw[e9,Qq (by rw[H8.o];exact Ii),List.map_append,←HZ.o,←be4];exact HO9.o
         case measure=>simp[intOf];omega
        ·have hd:decide ((i:Int)<8)=false:=by simp;omega
         have SN:i=8:=by omega
         have h9:=Qn.o;rw[SN,List.take_of_length_le (by rw[H8.o];exact Nat.le_refl 8),uG.o]at h9;have H9:=acr h9;have EM:=acr SN;clear h9 SN hown hi Ii;go_wp2_with fail;go_ret;have h9:=H9.o;have e4:4*8=(vE bs).length:=(ze bs).symm;rw[EM.o];rw[e4]at h9⊢;exact⟨a2,c2,rfl,Ud h9 hwr,HBO.o.trans (uR.o.mono hwr)⟩
    |succ k=>
     have hk0:(0:Int)≤k:=by omega
     have e3:8*((k+1:Nat):Int)-8=8*(k:Int):=by omega
     rw[e3];have e4:IntKind.u64.wrap (8*(k:Int))=8*(k:Int):=by simp[IntKind.wrap,IntKind.bits,IntKind.signed];omega
     have e5:IntKind.i64.wrap (8*(k:Int)-8)=8*(k:Int)-8:=aag _ (by omega);have hge:decide ((0:Int)≤8*(k:Int))=true:=by simp;omega
     have hge2:(0:Int)≤8*(k:Int):=by omega
     obtain⟨m3,Jl⟩:∃m3,m3=m+dn.length:=⟨_,rfl⟩;rw[←Jl]at WR⊢;have Ca:=acr Jl;have hm3b:m3≤n+80:=by omega
     have hbw:=pK hN0 k;obtain⟨b0,hb0⟩:∃b0,b0=UInt8.ofNat ((N/2^(8*k)).toNat%256):=⟨_,rfl⟩;rw[←hb0]at hbw;have HBV:acs (Value.int .u8 (N/2^(8*k)%256)=bv b0):=by
      show Value.int .u8 (N/2^(8*k)%256)=bv b0;have e9:(8*(k:Int)).toNat=8*k:=by omega
      rw[e9]at hbw;simp only[IntKind.wrap,IntKind.bits,IntKind.signed]at hbw;simp at hbw;simp[bv];omega
     have HB0:=acr hb0;clear hb0 hbw Jl;go_wp2_with (at_builtin;refine lM rfl _ _ 28 rfl w.heap.size 5 i8 _ 1 1 Tryz.underlying28 HI.o.1 HI.o.2.1 HI.o.2.2.1 HI.o.2.2.2 rfl (by omega) (.slice a1 m3 c1) m3 ((P++dn).map bv) rfl (fG WR.o fun b hb hbw=>(wall wr _).block b hbw) (some ⟨wr.heap.size,0,none⟩) 1 1 [.int .u8 (N/2^(8*k)%256)] rfl (lH (w:=wr) [.int .u8 (N/2^(8*k)%256)] 5 (by simp[maxLen])) (by simp[Value.oneCell']) (by unfold maxLen;omega) (by omega) (by have:=HB3.o.size;simp;omega) ?_;intro A4 c4 w4 mY hb4;have Nc:=acr mY;have eT:=acr ((HB3.o.trans ((wall wr _).mono HB3.o.size)).trans hb4);clear mY hb4);go_roundw
     case rel=>
      have e9:m+(dn++[b0]).length=m3+1:=by have:=Ca.o;simp;omega
      refine⟨k,dn++[b0],A4,c4,by omega,by go_num,?_,by simp;omega,by rw[e9],?_,eT.o⟩
      ·rw[TK,←Ck.o,HB0.o];rfl
      ·rw[e9];have h8:=Nc.o;rw[HBV.o]at h8;simpa using h8
     case measure=>simp[intOf];omega
  ·have h56:¬m%64=56:=fun e=>hjz (hsp.1 e);have hd:((m:Int)%64 !=56)=true:=by simp;omega
   clear hsp;go_wp2_with (at_builtin;refine lM rfl _ _ 28 rfl w.heap.size 5 i8 _ 1 1 Tryz.underlying28 HI.o.1 HI.o.2.1 HI.o.2.2.1 HI.o.2.2.2 rfl (by omega) (.slice a' m c') m ((bs++[128]++List.replicate j 0).map bv) rfl (fG HO.o fun b hb hbw=>(wall wr _).block b hbw) (some ⟨wr.heap.size,0,none⟩) 1 1 [bv 0] rfl (lH (w:=wr) [bv 0] 5 (by simp[maxLen])) (by simp[Value.oneCell',bv]) (by unfold maxLen;omega) (by omega) (by have:=HB.o.size;simp;omega) ?_;intro A4 c4 w4 mY hb4;have Nc:=acr mY;have eT:=acr ((HB.o.trans ((wall wr _).mono HB.o.size)).trans hb4);clear mY hb4);go_roundw
   case rel=>
    have e9:n+1+(j+1)=m+1:=by have:=HM.o;omega
    refine⟨j+1,A4,c4,by rw[e9],by omega,?_,eT.o⟩;rw[e9,List.replicate_succ'];simpa using Nc.o
   case measure=>show n+200-(m+1)<n+200-m;have:=HM.o;omega
end Go.Proofs.YtjnhnlabpccgjaaGreatDoor
