/- permafrostref2 -/
import Derived.Test.YtjnhnlabpccgjaaGreatDoorM40
import Derived.Test.YtjnhnlabpccgjaaGreatDoorM24
import Derived.Test.YtjnhnlabpccgjaaGreatDoorM13
import Derived.Test.YtjnhnlabpccgjaaGreatDoorM22
import Derived.Test.YtjnhnlabpccgjaaGreatDoorM25
import Derived.Test.YtjnhnlabpccgjaaGreatDoorM32
import Derived.Deep.WholeRow
import Derived.BigQuiet
import Derived.Deep.QuietTactic
set_option maxRecDepth 100000
set_option maxHeartbeats 64000000
set_option linter.all false
namespace Go.Proofs.YtjnhnlabpccgjaaGreatDoor
open Go.ChangeShapes Go.WideShapes Go.ChangeAt Go.RowKit
theorem QK{w:World}{b i:Nat}(h:w.heap[b]? =some (.cells xX 218 (0,0)))(hi:i<64):w.cell? ⟨b,i,none⟩=some (eP (kM.getD i 0)):=by
 have hk:kM.length=64:=rfl;simp only[World.cell?,h];show((kM.map eP).toArray)[i]? =_;rw[aaq,List.getElem?_map,aaB,List.getElem?_eq_getElem (by rw[hk];exact hi)];rfl
theorem KA(w:World)(b:Nat)(hb:b=w.heap.size):(Instr.storeAt 218 (.pointer (some ⟨b,0,none⟩)) (.agg xX)).run Tryz.prog (w.alloc (.cells z64 218))= .ok () (w.alloc (.cells xX 218)):=by
 subst hb;exact Dm w
theorem Ve{S:Nat→Prop}(a:Option Addr)(n c:Nat)(bs:List UInt8)(w:World)(hr:ah S w a n (bs.map bv))(hn:n≤100000000):Calls Tryz.prog 123 #[.slice a n c] w (gP w (nM bs)):=by
 obtain⟨i8,hi⟩:∃i,Tryz.prog.info? 5=some i∧i.zero=some (.int .u8 0)∧i.size=1∧i.bytes=1:=aap (by kernel_rfl);have HI:=acA hi;have hln:bs.length=n:=by simpa using hr.length
 have HLN:=acA hln;have Yf:=acA (show(w.alloc (.cells #[] 5)).ownsRow w.heap.size 5 1 (.slice (some ⟨w.heap.size,0,none⟩) 0 0) 0 []from World.ownsRow_lit w #[] 0 acC (by decide) rfl);have HRA:acB (ah S (w.alloc (.cells #[] 5)) a n (bs.map bv)):=hr.below (wall w _) acC;have J4:=acA (wall w (.cells #[] 5));have Uf:(w.alloc (.cells #[] 5)).heap.size=w.heap.size+1:=by simp
 have HSK:=acA KA;clear hr hi hln;go_enter Tryz.func123,Tryz.ntmps123;go_wp2_with (at_builtin;go_loud (first|(refine aS rfl _ _ 28 rfl w.heap.size 5 i8 _ 1 Tryz.underlying28 HI.o.1 HI.o.2.1 HI.o.2.2.1 HI.o.2.2.2 rfl _ 0 [] rfl Yf.o a n c (bs.map bv) rfl HRA.o (eZ bs) (by unfold maxLen;omega) (by omega) (by omega) ?_;intro A1 c1 u1 hown1 hg1 _ uU;simp only[Nat.zero_add,List.nil_append]at hown1 uU;have Gs:=acA (eG hg1 (wV w) J4.o);have hs1:=Gs.o.size;have Zu:=acA (jY (w:=u1) [bv 128] 5 (by unfold maxLen;simp));have Y8:=acA (wW hown1 (.cells #[bv 128] 5));have RG:=acA (wall u1 (.cells #[bv 128] 5));have hzB:(u1.alloc (.cells #[.int .u8 128] 5)).heap.size=u1.heap.size+1:=(by simp);have HLW:=acA (Eb hown1 uU);clear hown1 hg1 uU;(try simp only[Nat.zero_add]))|(refine aS rfl _ _ 28 rfl w.heap.size 5 i8 _ 1 Tryz.underlying28 HI.o.1 HI.o.2.1 HI.o.2.2.1 HI.o.2.2.2 rfl _ n (bs.map bv) rfl Y8.o _ 1 1 [bv 128] rfl Zu.o (eZ [128]) (by unfold maxLen;omega) (by omega) (by omega) ?_;intro A2 c2 u2 hown2 hg2 _ Hz;have HG2:=acA (eG hg2 HLW.o (Gs.o.trans (RG.o.mono Gs.o.size)));have EI:=acA hown2;clear hown2 hg2 Hz)))
 go_loopw [3] (fun v wr=>∃(j:Nat) (a':Option Addr) (c':Nat),v= .slice a' (n+1+j) c'∧j≤mY n∧wr.ownsRow w.heap.size 5 1 (.slice a' (n+1+j) c') (n+1+j) ((bs++[128]++List.replicate j 0).map bv)∧Below w.heap.size w wr) (fun v _=>n+200-(match v with| .slice _ m _=>m|_=>0))
 case atStart=>exact⟨0,A2,c2,rfl,Nat.zero_le _,by simpa using EI.o,HG2.o⟩
 case round=>
  obtain⟨j,a',c',rfl,hj,hown,hb⟩:=hrel;have HO:=acA hown;have HB:=acA hb;have hz:=FJ n;have hsp:=Bl n j hj;obtain⟨m,hm⟩:∃m,m=n+1+j:=⟨_,rfl⟩;rw[←hm]at HO hsp⊢;have HM:=acA hm;have hm200:m≤n+65:=by omega
  clear hown hb hm;by_cases hjz:j=mY n
  ·have h56:m%64=56:=hsp.2 hjz;have hd:((m:Int)%64 !=56)=false:=by simp;omega
   have e1:IntKind.u64.wrap (n:Int)=(n:Int):=by simp[IntKind.wrap,IntKind.bits,IntKind.signed];omega
   have e2:IntKind.u64.wrap ((n:Int)*8)=(n:Int)*8:=by simp[IntKind.wrap,IntKind.bits,IntKind.signed];omega
   obtain⟨P,hP⟩:∃P,P=bs++[128]++List.replicate j 0:=⟨_,rfl⟩;rw[←hP]at HO;have HPE:acB (P=bs++[128]++List.replicate (mY bs.length) 0):=by
    show P=_;rw[hP,hjz,HLN.o]
   have Wi:acB ((m+8)%64=0):=by show(m+8)%64=0;omega
   clear hsp h56 hjz hP;go_wp2_with fail;obtain⟨N,hN⟩:∃N:Int,N=(n:Int)*8:=⟨_,rfl⟩;rw[←hN];have hN0:0≤N:=by omega
   have HN:=acA hN;clear hN e2;obtain⟨wq,rfl⟩:∃wq:World,wq=wr:=⟨_,rfl⟩
   go_loopw [3,5] (fun v kv wr=>∃(k:Nat) (dn:List UInt8) (a1:Option Addr) (c1:Nat),k≤8∧kv= .int .i64 (8*(k:Int)-8)∧dn++fT N k=fT N 8∧dn.length+k=8∧v= .slice a1 (m+dn.length) c1∧wr.ownsRow w.heap.size 5 1 (.slice a1 (m+dn.length) c1) (m+dn.length) ((P++dn).map bv)∧Below w.heap.size w wr) (fun _ kv _=>((intOf kv)+8).toNat)
   case atStart=>exact⟨8,[],a',c',by omega,rfl,rfl,rfl,rfl,by simpa using HO.o,HB.o⟩
   case round=>
    obtain⟨k,dn,a1,c1,hk,rfl,hdn,hdl,rfl,hown,hB⟩:=hrel;have Cc:=acA hdn;have GY:=acA hown;have HB3:=acA hB;have UA:=hB.size;clear hdn hown hB;cases k with
    |zero=>
     have e0:8*((0:Nat):Int)-8= -8:=by omega
     rw[e0];have TM:dn=fT N 8:=by
      have h9:dn++[]=fT N 8:=Cc.o
      rwa [aaE]at h9
     have HPAD:acB (P++dn=ql bs bs.length):=by
      show P++dn=ql bs bs.length;unfold ql;rw[HPE.o,TM,HN.o,HLN.o]
     have hdl8:dn.length=8:=by omega
     rw[hdl8,HPAD.o]at GY;rw[hdl8];obtain⟨X,hX⟩:∃X,X=ql bs bs.length:=⟨_,rfl⟩;rw[←hX]at GY;have HX:=acA hX;obtain⟨NB,hNB⟩:∃NB,NB=(m+8)/64:=⟨_,rfl⟩;obtain⟨M,hMe⟩:∃M,M=m+8:=⟨_,rfl⟩;have Zb:acB (M=64*NB):=by show M=64*NB;have:=Wi.o;omega
     have hMle:M≤100000100:=by omega
     rw[←hMe]at GY⊢;clear TM hdl hdl8 hX hNB hMe e0;go_upto_region 10 with(fail);go_wp2_with (first|(refine sS (v:= .agg xX) rfl 218 _ rfl (by kernel_rfl) ?_)|(refine og rfl 218 _ _ rfl (HSK.o _ _ (by simp)) ?_));have Yn:=HB3.o.size;have hBs3:=HB3.o.size;have hT8:=(MapKept.heap_alloc wr (.cells (vL.map eP).toArray 217)).1;have hT64:=(MapKept.heap_alloc (wr.alloc (.cells (vL.map eP).toArray 217)) (.cells xX 218)).1;have hBk:=wall (wr.alloc (.cells (vL.map eP).toArray 217)) (.cells xX 218);have hz8:(wr.alloc (.cells (vL.map eP).toArray 217)).heap.size=wr.heap.size+1:=by simp
     have hBw:Below wr.heap.size wr ((wr.alloc (.cells (vL.map eP).toArray 217)).alloc (.cells xX 218)):=(wall wr _).trans (hBk.mono (by rw[hz8];omega));obtain⟨w1,hw1⟩:∃w1:World,w1=(wr.alloc (.cells #[.int .u32 1779033703,.int .u32 3144134277,.int .u32 1013904242,.int .u32 2773480762,.int .u32 1359893119,.int .u32 2600822924,.int .u32 528734635,.int .u32 1541459225] 217)).alloc (.cells xX 218):=⟨_,rfl⟩;obtain⟨hb,hhb⟩:∃hb,hb=wr.heap.size:=⟨_,rfl⟩;have hH1:w1.heap[hb]? =some (.cells (vL.map eP).toArray 217 (0,0)):=by rw[hw1,hhb];exact(hBk.block _ (by rw[hz8];omega)).trans hT8
     have hK1:w1.heap[hb+1]? =some (.cells xX 218 (0,0)):=by rw[hw1,hhb,←hz8];exact hT64
     have hB1:Below w.heap.size w w1:=by rw[hw1];exact HB3.o.trans (hBw.mono hBs3)
     have hO1:ah (fun b=>b<hb) w1 a1 M (X.map bv):=by
      obtain⟨-,-,hr1⟩:=ah.qd GY.o (by unfold maxLen;omega);rw[Nat.mul_one]at hr1;rw[hw1,hhb];exact(hr1.below hBw acC).mono fun b hb=>hb.2
     have hhw:w.heap.size≤hb:=by rw[hhb];exact hBs3
     rw[←hw1,←hhb];have PV:=acA hH1;have yF:=acA hK1;have HB1:=acA hB1;have uO:=acA hO1;clear hT8 hT64 hBk hz8 hBw hw1 hhb hH1 hK1 hB1 hO1 hBs3
     go_loopw [8] (fun v wx=>∃(k p:Nat),v= .int .i64 p∧p=64*k∧k≤NB∧wx.heap[hb]? =some (.cells ((runM vL k X).map eP).toArray 217 (0,0))∧Keeps (fun b=>b=hb) w1 wx) (fun v _=>M-(intOf v).toNat)
     case atStart=>exact⟨0,0,rfl,rfl,Nat.zero_le _,PV.o,Keeps.refl _ _⟩
     case round=>
      obtain⟨k,p,rfl,hp,hk,hh,hKx⟩:=hrel;have h8:=oU k vL X rfl;have hnn:=Oj k vL X h0M_nn;obtain⟨H,hH⟩:∃H,H=runM vL k X:=⟨_,rfl⟩;rw[←hH]at hh h8 hnn;have Ry:=acA hH;have HHX:=acA hh;have Tp:=acA hKx;have H8:=acA h8;have xP:=acA hnn;have HP:=acA hp;have hpM:p≤64*NB:=by omega
      clear hh hKx h8 hnn hH;by_cases hlt:k<NB
      ·have hd:decide (p<M)=true:=by have:=Zb.o;simp;omega
       have hpk:p+64≤M:=by have:=Zb.o;omega
       have ht:(p:Int)<(M:Int):=by omega
       obtain⟨wo,rfl⟩:∃wo:World,wo=wr:=⟨_,rfl⟩;clear hp;go_wp2_with fail;obtain⟨blk,hblk⟩:∃blk,blk=(X.drop p).take 64:=⟨_,rfl⟩;have HBLK:=acA hblk;clear hblk
       go_loopw [10,11,12] (fun iv _ _ wx=>∃j:Nat,iv= .int .i64 j∧j≤64∧wx.heap[wo.heap.size]? =some (.cells (Ey (sw blk j)) 218 (0,0))∧Below wo.heap.size wo wx) (fun iv _ _ _=>64-(intOf iv).toNat)
       case atStart=>exact⟨0,rfl,by omega,(MapKept.heap_alloc wo _).1,wall wo _⟩
       case round=>
        obtain⟨j,rfl,hj,hw,hbx⟩:=hrel;have hwl:=U_ blk j;by_cases h64:j<64
        ·have hd:decide ((j:Int)<64)=true:=by simp;omega
         have hz:=GQ hw (Nat.le_of_eq hwl) h64;have hfz:wr.frozen? ⟨wo.heap.size,j,none⟩=false:=by simp[World.frozen?,hw]
         have HW:=acA hw;have rF:=acA hbx;have HWL:=acA hwl;have j64:(j:Int)<64:=by omega
         have j0:(0:Int)≤(j:Int):=by omega
         have htj:((j:Int)).toNat=j:=by omega
         by_cases h16:j<16
         ·as_aux_lemma=>
          have hd16:decide ((j:Int)<16)=true:=by simp;omega
          have hrow:ah (fun b=>b<hb) wr a1 M (X.map bv):=uO.o.move (Nat.le_trans Tp.o.size hbx.size) fun b hb' hbw=>⟨hb',(hbx.block b (Pd hbw Tp.o.size)).trans (Tp.o.block b hbw (fun e:b=hb=>by omega))⟩;obtain⟨rb,ro,rfl,hrs,hrb,hrc⟩:=hrow.at_ (by omega);obtain⟨q,hq⟩:∃q,q=p+4*j:=⟨_,rfl⟩;obtain⟨q1,hq1⟩:∃q1,q1=q+1:=⟨_,rfl⟩;obtain⟨q2,hq2⟩:∃q2,q2=q+2:=⟨_,rfl⟩;obtain⟨q3,hq3⟩:∃q3,q3=q+3:=⟨_,rfl⟩;have l0:q<M:=by omega
          have l1:q1<M:=by omega
          have l2:q2<M:=by omega
          have l3:q3<M:=by omega
          have c0:=zF hrow l0;have c1:=zF hrow l1;have c2:=zF hrow l2;have c3:=zF hrow l3;have ew:IntKind.i64.wrap (4*(j:Int))=4*(j:Int):=aak _ (by omega);have eq0:IntKind.i64.wrap ((p:Int)+4*(j:Int))=(q:Int):=by rw[aak _ (by omega)];omega
          have eq1:IntKind.i64.wrap ((q:Int)+1)=(q1:Int):=by rw[aak _ (by omega)];omega
          have eq2:IntKind.i64.wrap ((q:Int)+2)=(q2:Int):=by rw[aak _ (by omega)];omega
          have eq3:IntKind.i64.wrap ((q:Int)+3)=(q3:Int):=by rw[aak _ (by omega)];omega
          have i0:(q:Int)<(M:Int):=by omega
          have i1:(q1:Int)<(M:Int):=by omega
          have i2:(q2:Int)<(M:Int):=by omega
          have i3:(q3:Int)<(M:Int):=by omega
          have HWD:acB (vM blk j=Bh (X.getD q 0) (X.getD q1 0) (X.getD q2 0) (X.getD q3 0)):=by
           show vM blk j=_;rw[HBLK.o,Yl X p j h16,hq1,hq2,hq3,hq]
          generalize X.getD q 0=b0 at*;generalize X.getD q1 0=b1 at*;generalize X.getD q2 0=b2 at*;generalize X.getD q3 0=b3 at*;clear hq hq1 hq2 hq3 hrow hrs hrb hrc hw hbx hwl;go_wp2_with fail;refine qA 43 ((fun w'=>(w'.cell? ⟨rb,ro+q,none⟩=some (.int .u8 (b0.toNat:Int))∧w'.cell? ⟨rb,ro+q1,none⟩=some (.int .u8 (b1.toNat:Int))∧w'.cell? ⟨rb,ro+q2,none⟩=some (.int .u8 (b2.toNat:Int))∧w'.cell? ⟨rb,ro+q3,none⟩=some (.int .u8 (b3.toNat:Int)))∧w'.cell? ⟨wo.heap.size,j,none⟩=some (.int .u32 0)∧w'.frozen? ⟨wo.heap.size,j,none⟩=false)) ?_ fun hS=> ?_
          ·exact⟨⟨c0,c1,c2,c3⟩,hz,hfz⟩
          refine au 0 hS ?_;refine au 1 hS ?_;refine au 2 hS ?_;refine au 3 hS ?_;refine au 4 hS ?_;refine au 5 hS ?_;refine au 6 hS ?_;refine au 7 hS ?_;refine au 8 hS ?_;refine au 9 hS ?_;refine au 10 hS ?_;refine au 11 hS ?_;refine au 12 hS ?_;refine au 13 hS ?_;refine au 14 hS ?_;refine au 15 hS ?_;refine au 16 hS ?_;refine au 17 hS ?_;refine au 18 hS ?_;refine au 19 hS ?_;refine au 20 hS ?_;refine au 21 hS ?_;refine au 22 hS ?_;refine au 23 hS ?_;refine au 24 hS ?_;refine au 25 hS ?_;refine au 26 hS ?_;refine au 27 hS ?_;refine au 28 hS ?_;refine au 29 hS ?_;refine au 30 hS ?_;refine au 31 hS ?_;refine au 32 hS ?_;refine au 33 hS ?_;refine au 34 hS ?_;refine au 35 hS ?_;refine au 36 hS ?_;refine au 37 hS ?_;refine au 38 hS ?_;refine au 39 hS ?_;refine au 40 hS ?_;refine au 41 hS ?_;refine au 42 hS ?_;refine bB 43 fun K hK=> ?_;go_simp;refine kX hK ?_;clear hS hK K;go_wp2_with fail;go_roundw
          case rel=>
           refine⟨j+1,by go_num,by omega,?_,?_⟩
           ·have h9:=GR (w:=wr.drew) HW.o (by rw[HWL.o];omega) (vM blk j);rw[HWL.o,←Oh blk h16,HWD.o,←Vd]at h9;exact h9
           ·exact wM (hBQD rF.o) rF.o.size acC _ _
          case measure=>simp[intOf];omega
         ·as_aux_lemma=>
          have hd16:decide ((j:Int)<16)=false:=by simp;omega
          have s15:=oK hw (show j-15<_ by rw[hwl];omega);have s2:=oK hw (show j-2<_ by rw[hwl];omega);have s16:=oK hw (show j-16<_ by rw[hwl];omega);have s7:=oK hw (show j-7<_ by rw[hwl];omega);have e15:IntKind.i64.wrap ((j:Int)-15)=(j:Int)-15:=aak _ (by omega);have e2:IntKind.i64.wrap ((j:Int)-2)=(j:Int)-2:=aak _ (by omega);have e16:IntKind.i64.wrap ((j:Int)-16)=(j:Int)-16:=aak _ (by omega);have e7:IntKind.i64.wrap ((j:Int)-7)=(j:Int)-7:=aak _ (by omega);have n15:((j:Int)-15).toNat=j-15:=by omega
          have n2:((j:Int)-2).toNat=j-2:=by omega
          have n16:((j:Int)-16).toNat=j-16:=by omega
          have n7:((j:Int)-7).toNat=j-7:=by omega
          have g15:(0:Int)≤(j:Int)-15:=by omega
          have g2':(0:Int)≤(j:Int)-2:=by omega
          have g16:(0:Int)≤(j:Int)-16:=by omega
          have g7:(0:Int)≤(j:Int)-7:=by omega
          have l15:(j:Int)-15<64:=by omega
          have l2:(j:Int)-2<64:=by omega
          have l16:(j:Int)-16<64:=by omega
          have l7:(j:Int)-7<64:=by omega
          have q16:(16:Int)≤(j:Int):=by omega
          have q7:(7:Int)≤(j:Int):=by omega
          have hn:=H7 blk j;have p15:=oO hn (j-15);have p2:=oO hn (j-2);clear hn;obtain⟨w15,LV⟩:∃z,z=(sw blk j).getD (j-15) 0:=⟨_,rfl⟩;obtain⟨w2,hw2⟩:∃z,z=(sw blk j).getD (j-2) 0:=⟨_,rfl⟩;obtain⟨w16,hw16⟩:∃z,z=(sw blk j).getD (j-16) 0:=⟨_,rfl⟩;obtain⟨w7,hw7⟩:∃z,z=(sw blk j).getD (j-7) 0:=⟨_,rfl⟩;rw[←LV]at s15 p15;rw[←hw2]at s2 p2;rw[←hw16]at s16;rw[←hw7]at s7;have Tj:=acA (And.intro LV (And.intro hw2 (And.intro hw16 hw7)));have r7:acB (∀(x:Int) (w:World),0≤x→Calls Tryz.prog 178 #[.int .u32 x,.int .u64 7] w fun e w'=>e= .returned (.int .u32 (lX x 25))∧w=w'):=fun x w h=>rt 7 rfl x w h (by omega) (by omega);have r18:acB (∀(x:Int) (w:World),0≤x→Calls Tryz.prog 178 #[.int .u32 x,.int .u64 18] w fun e w'=>e= .returned (.int .u32 (lX x 14))∧w=w'):=fun x w h=>rt 18 rfl x w h (by omega) (by omega);have r17:acB (∀(x:Int) (w:World),0≤x→Calls Tryz.prog 178 #[.int .u32 x,.int .u64 17] w fun e w'=>e= .returned (.int .u32 (lX x 15))∧w=w'):=fun x w h=>rt 17 rfl x w h (by omega) (by omega);have r19:acB (∀(x:Int) (w:World),0≤x→Calls Tryz.prog 178 #[.int .u32 x,.int .u64 19] w fun e w'=>e= .returned (.int .u32 (lX x 13))∧w=w'):=fun x w h=>rt 19 rfl x w h (by omega) (by omega);clear LV hw2 hw16 hw7 hw hbx hwl;go_wp2_with fail
          go_quiet (fail)
          have t16:(wr.drewN nq).cell? ⟨wo.heap.size,j-16,none⟩=some (.int .u32 w16):=s16;have t7:(wr.drewN nq).cell? ⟨wo.heap.size,j-7,none⟩=some (.int .u32 w7):=s7;have tz:(wr.drewN nq).cell? ⟨wo.heap.size,j,none⟩=some (.int .u32 0):=hz;have tf:(wr.drewN nq).frozen? ⟨wo.heap.size,j,none⟩=false:=hfz;have Tk:(wr.drewN nq).heap[wo.heap.size]? =some (.cells (Ey (sw blk j)) 218 (0,0)):=HW.o;have Tm:Below wo.heap.size wo (wr.drewN nq):=⟨rF.o.os,rF.o.tape,rF.o.output,rF.o.size,rF.o.block⟩;generalize wr.drewN nq=wq at*;have HWQ:=acA Tk;have LW:=acA Tm;clear Tk Tm s15 s2 s16 s7 hz hfz;go_wp2_with fail;refine qA 29 ((fun w'=>w'.cell? ⟨wo.heap.size,j-16,none⟩=some (.int .u32 w16)∧w'.cell? ⟨wo.heap.size,j-7,none⟩=some (.int .u32 w7)∧w'.cell? ⟨wo.heap.size,j,none⟩=some (.int .u32 0)∧w'.frozen? ⟨wo.heap.size,j,none⟩=false)) ?_ fun hS=> ?_
          ·exact⟨t16,t7,tz,tf⟩
          refine au 0 hS ?_;refine au 1 hS ?_;refine au 2 hS ?_;refine au 3 hS ?_;refine au 4 hS ?_;refine au 5 hS ?_;refine au 7 hS ?_;refine au 10 hS ?_;refine au 11 hS ?_;refine au 14 hS ?_;refine au 15 hS ?_;refine au 16 hS ?_;refine au 17 hS ?_;refine au 19 hS ?_;refine au 21 hS ?_;refine au 24 hS ?_;refine au 25 hS ?_;refine bB 6 fun K hK=> ?_;go_simp;refine(r7.o _ _ p15).mono ?_;rintro e w5 ⟨rfl,rfl⟩;go_wp2_with fail;refine bK hK (hS) fun hS=> ?_;clear hK K;refine bB 8 fun K hK=> ?_;go_simp;refine(r18.o _ _ p15).mono ?_;rintro e w5 ⟨rfl,rfl⟩;go_wp2_with fail;refine bK hK (hS) fun hS=> ?_;clear hK K;refine au 9 hS ?_;refine au 12 hS ?_;refine au 13 hS ?_;refine au 18 hS ?_;refine bB 20 fun K hK=> ?_;go_simp;refine(r17.o _ _ p2).mono ?_;rintro e w5 ⟨rfl,rfl⟩;go_wp2_with fail;refine bK hK (hS) fun hS=> ?_;clear hK K;refine bB 22 fun K hK=> ?_;go_simp;refine(r19.o _ _ p2).mono ?_;rintro e w5 ⟨rfl,rfl⟩;go_wp2_with fail;refine bK hK (hS) fun hS=> ?_;clear hK K;refine au 23 hS ?_;refine au 26 hS ?_;refine au 27 hS ?_;refine au 28 hS ?_;refine bB 29 fun K hK=> ?_;go_simp;refine kX hK ?_;clear hS hK K;go_wp2_with fail;go_roundw
          case rel=>
           refine⟨j+1,by go_num,by omega,?_,?_⟩
           ·have h9:=GR (w:=wq.drew) HWQ.o (by rw[HWL.o];omega) (Bj (sw blk j));have e9:Bj (sw blk j)=IJ (IJ (IJ (w16+sg0 w15)+w7)+sg1 w2):=by
             unfold Bj;rw[HWL.o,Tj.o.1,Tj.o.2.1,Tj.o.2.2.1,Tj.o.2.2.2]
            rw[HWL.o,←Oi blk (by omega),e9]at h9;exact h9
           ·exact wM (hBQD LW.o) LW.o.size acC _ _
          case measure=>simp[intOf];omega
        ·have hd:decide ((j:Int)<64)=false:=by simp;omega
         have hj64:j=64:=by omega
         rw[hj64,Va]at hw;obtain⟨ws,hws⟩:∃ws,ws=fI blk 48:=⟨_,rfl⟩;rw[←hws]at hw;have hwsl:ws.length=64:=by rw[hws,qN]
         have HWSE:=acA hws;have QL:hb<wo.heap.size:=(iA.1 HHX.o).1;have hrh:wr.heap[hb]? =some (.cells (H.map eP).toArray 217 (0,0)):=(hbx.block hb QL).trans HHX.o;have h1o:=Tp.o.size;have hk1:hb+1<w1.heap.size:=(iA.1 yF.o).1;have EK:wr.heap[hb+1]? =some (.cells xX 218 (0,0)):=(hbx.block (hb+1) (by omega)).trans ((Tp.o.block (hb+1) hk1 (fun e:hb+1=hb=>by omega)).trans yF.o);have hKr:Keeps (fun b=>b=hb) w1 wr:=Tp.o.trans (Keeps.below hbx) fun x hx hx'=>absurd hx (by have:wo.heap.size≤x:=hx';omega);obtain⟨wb,hwb⟩:∃wb,wb=wo.heap.size:=⟨_,rfl⟩;rw[←hwb]at hw QL⊢;have hwbr:wb<wr.heap.size:=(iA.1 hw).1;have h1b:w1.heap.size≤wb:=by omega
         have S_:(Tryz.prog.info? 217).map (·.size)=some (H.map eP).toArray.size:=by
          rw[show(H.map eP).toArray.size=8 by simp[H8.o]];kernel_rfl
         have NT:=acA S_;have HST8:acB (∀(w:World) (b:Nat),b=w.heap.size→(Instr.storeAt 217 (.pointer (some ⟨b,0,none⟩)) (.agg (H.map eP).toArray)).run Tryz.prog (w.alloc (.cells #[.int .u32 0,.int .u32 0,.int .u32 0,.int .u32 0,.int .u32 0,.int .u32 0,.int .u32 0,.int .u32 0] 217))= .ok () (w.alloc (.cells (H.map eP).toArray 217))):=fun w b hb=>by
          subst hb;exact run_storeAt_new w 217 _ _ S_ (by simp[H8.o]) (Ym H)
         have HRH:=acA hrh;have K3:=acA EK;have HW:=acA hw;have RH:=acA hKr;clear hj64 hw hrh EK hKr hwb hbx hwl hj h64 hws S_;go_wp2_with (first|(refine wpList_load_row rfl 217 _ rfl hb rfl 217 (H.map eP).toArray (0,0) _ HRH.o Tryz.underlying217 rfl NT.o ?_)|(refine og rfl 217 _ _ rfl (HST8.o _ _ (by simp)) ?_));have hbA:=wall wr (.cells (H.map eP).toArray 217);have hsA:=(MapKept.heap_alloc wr (.cells (H.map eP).toArray 217)).1;have Uf:(wr.alloc (.cells (H.map eP).toArray 217)).heap.size=wr.heap.size+1:=by simp
         have hhr:hb+1<wr.heap.size:=(iA.1 K3.o).1;obtain⟨sb,hsb⟩:∃sb,sb=wr.heap.size:=⟨_,rfl⟩;rw[←hsb]at hsA Uf⊢;obtain⟨wA,hwA⟩:∃wA:World,wA=wr.alloc (.cells (H.map eP).toArray 217):=⟨_,rfl⟩;rw[←hwA]at hbA hsA Uf⊢;have hwW:wA.heap[wb]? =some (.cells (Ey ws) 218 (0,0)):=(hbA.block wb hwbr).trans HW.o;have hwK:wA.heap[hb+1]? =some (.cells xX 218 (0,0)):=(hbA.block (hb+1) hhr).trans K3.o;have hwH:wA.heap[hb]? =some (.cells (H.map eP).toArray 217 (0,0)):=(hbA.block hb (by omega)).trans HRH.o;have hKA:Keeps (fun b=>b=hb) w1 wA:=RH.o.trans (Keeps.below hbA) fun x hx hx'=>absurd hx (by have:wr.heap.size≤x:=hx';have:=RH.o.size;omega);have hsbb:wb<sb∧hb+1<sb:=by omega
         have HWW:=acA hwW;have HWKK:=acA hwK;have HWH:=acA hwH;have HKA:=acA hKA;have HSA:=acA hsA;have HZA:=acA Uf;have Ww:acB ((H.map eP).toArray=((wL.of H).list.map eP).toArray):=by
          show(H.map eP).toArray=_;obtain⟨x0,x1,x2,x3,x4,x5,x6,x7,he⟩:=eight H8.o;rw[he];rfl
         have yV:=acA (wL.of_nn xP.o);have r6:acB (∀(x:Int) (w:World),0≤x→Calls Tryz.prog 178 #[.int .u32 x,.int .u64 6] w fun e w'=>e= .returned (.int .u32 (lX x 26))∧w=w'):=fun x w h=>rt 6 rfl x w h (by omega) (by omega);have r11:acB (∀(x:Int) (w:World),0≤x→Calls Tryz.prog 178 #[.int .u32 x,.int .u64 11] w fun e w'=>e= .returned (.int .u32 (lX x 21))∧w=w'):=fun x w h=>rt 11 rfl x w h (by omega) (by omega);have r25:acB (∀(x:Int) (w:World),0≤x→Calls Tryz.prog 178 #[.int .u32 x,.int .u64 25] w fun e w'=>e= .returned (.int .u32 (lX x 7))∧w=w'):=fun x w h=>rt 25 rfl x w h (by omega) (by omega);have r2:acB (∀(x:Int) (w:World),0≤x→Calls Tryz.prog 178 #[.int .u32 x,.int .u64 2] w fun e w'=>e= .returned (.int .u32 (lX x 30))∧w=w'):=fun x w h=>rt 2 rfl x w h (by omega) (by omega);have r13:acB (∀(x:Int) (w:World),0≤x→Calls Tryz.prog 178 #[.int .u32 x,.int .u64 13] w fun e w'=>e= .returned (.int .u32 (lX x 19))∧w=w'):=fun x w h=>rt 13 rfl x w h (by omega) (by omega);have r22:acB (∀(x:Int) (w:World),0≤x→Calls Tryz.prog 178 #[.int .u32 x,.int .u64 22] w fun e w'=>e= .returned (.int .u32 (lX x 10))∧w=w'):=fun x w h=>rt 22 rfl x w h (by omega) (by omega);clear hwW hwK hwH hKA hsA Uf hbA hwA hsb
         go_loopw [14] (fun iv wx=>∃(i:Nat) (st:wL),iv= .int .i64 i∧i≤64∧st=nL (wL.of H) ws i∧wx.heap[sb]? =some (.cells (st.list.map eP).toArray 217 (0,0))∧Keeps (fun b=>b=sb) wA wx) (fun iv _=>64-(intOf iv).toNat)
         case atStart=>exact⟨0,wL.of H,rfl,by omega,rfl,by rw[←Ww.o];exact HSA.o,Keeps.refl _ _⟩
         case round=>
          obtain⟨i,⟨sa,sc,sd,se,sf,sg,sh,sj⟩,rfl,hi,hst,hsx,hKs⟩:=hrel;have HST:=acA hst;have HSX:=acA hsx;have HKS:=acA hKs;by_cases Ti:i<64
          ·skip
           have hd:decide ((i:Int)<64)=true:=by simp;omega
           obtain⟨ww,Xm⟩:∃ww,ww=ws.getD i 0:=⟨_,rfl⟩;obtain⟨kk,hkk⟩:∃kk,kk=kM.getD i 0:=⟨_,rfl⟩;have hzz:=HZA.o;have hbW:wr.heap[wb]? =some (.cells (Ey ws) 218 (0,0)):=(hKs.block wb (by omega) (fun e:wb=sb=>by omega)).trans HWW.o;have hbK:wr.heap[hb+1]? =some (.cells xX 218 (0,0)):=(hKs.block (hb+1) (by omega) (fun e:hb+1=sb=>by omega)).trans HWKK.o;have EB:acB (∀w':World,w'.heap[sb]? =wr.heap[sb]? →w'.cell? ⟨sb,0,none⟩=some (.int .u32 sa)∧w'.cell? ⟨sb,1,none⟩=some (.int .u32 sc)∧w'.cell? ⟨sb,2,none⟩=some (.int .u32 sd)∧w'.cell? ⟨sb,3,none⟩=some (.int .u32 se)∧w'.cell? ⟨sb,4,none⟩=some (.int .u32 sf)∧w'.cell? ⟨sb,5,none⟩=some (.int .u32 sg)∧w'.cell? ⟨sb,6,none⟩=some (.int .u32 sh)∧w'.cell? ⟨sb,7,none⟩=some (.int .u32 sj)):=fun w' h=>by
            rw[hsx]at h;refine⟨?_,?_,?_,?_,?_,?_,?_,?_⟩<;>simp[World.cell?,h,wL.list]
           have HCW:acB (∀w':World,w'.heap[wb]? =wr.heap[wb]? →w'.cell? ⟨wb,i,none⟩=some (.int .u32 ww)):=fun w' h=>by
            rw[Xm];exact oK (h.trans hbW) (by rw[hwsl];exact Ti)
           have Yo:acB (∀w':World,w'.heap[hb+1]? =wr.heap[hb+1]? →w'.cell? ⟨hb+1,i,none⟩=some (.int .u32 kk)):=fun w' h=>by
            rw[hkk];exact QK (h.trans hbK) Ti
           have hNN:=wL.Gb yV.o ws i;rw[←hst]at hNN;have pf:0≤sf:=hNN.f;have pa:0≤sa:=hNN.a;have HWK:=acA (And.intro Xm hkk);have li:(i:Int)<64:=by omega
           have i0:(0:Int)≤(i:Int):=by omega
           have hti:((i:Int)).toNat=i:=by omega
           have hsw:sb<wr.heap.size:=(iA.1 hsx).1;obtain⟨c0,c1,c2,c3,c4,c5,c6,c7⟩:=EB.o wr rfl;clear Xm hkk hst hsx hKs hbW hbK hNN;go_wp2_with fail
           go_quiet (fail)
           clear c0 c1 c2 c3 c4 c5 c6 c7;have Yp:acB (∀b:Nat,(wr.drewN nq).heap[b]? =wr.heap[b]?):=fun b=>rfl;have HKQ1:acB (Keeps (fun _=>False) wr (wr.drewN nq)):=⟨rfl,rfl,rfl,Nat.le_refl _,fun _ _ _=>rfl⟩;generalize wr.drewN nq=wq at*;obtain⟨c0,c1,c2,c3,c4,c5,c6,c7⟩:=EB.o wq (Yp.o _);have cw:=HCW.o wq (Yp.o _);have ck:=Yo.o wq (Yp.o _);go_wp2_with fail
           go_quiet ((go_at_call 178;first|(with_reducible exact Calls.quiet_of_same (lM (r6.o sf _ pf)))|(with_reducible exact Calls.quiet_of_same (lM (r11.o sf _ pf)))|(with_reducible exact Calls.quiet_of_same (lM (r25.o sf _ pf)))))
           clear c0 c1 c2 c3 c4 c5 c6 c7 cw ck;have HBQ2:acB (∀b:Nat,(wq.drewN nq).heap[b]? =wr.heap[b]?):=fun b=>Yp.o b;have HKQ2:acB (Keeps (fun _=>False) wr (wq.drewN nq)):=HKQ1.o.trans (show Keeps (fun _=>False) wq (wq.drewN nq)from⟨rfl,rfl,rfl,Nat.le_refl _,fun _ _ _=>rfl⟩) fun x _ hx=>hx;generalize wq.drewN nq=wq2 at*;obtain⟨c0,c1,c2,c3,c4,c5,c6,c7⟩:=EB.o wq2 (HBQ2.o _);go_wp2_with fail
           go_quiet ((go_at_call 178;first|(with_reducible exact Calls.quiet_of_same (lM (r2.o sa _ pa)))|(with_reducible exact Calls.quiet_of_same (lM (r13.o sa _ pa)))|(with_reducible exact Calls.quiet_of_same (lM (r22.o sa _ pa)))))
           clear c0 c1 c2 c3 c4 c5 c6 c7;have HBQ3:acB (∀b:Nat,(wq2.drewN nq).heap[b]? =wr.heap[b]?):=fun b=>HBQ2.o b;have HKQ3:acB (Keeps (fun _=>False) wr (wq2.drewN nq)):=HKQ2.o.trans (show Keeps (fun _=>False) wq2 (wq2.drewN nq)from⟨rfl,rfl,rfl,Nat.le_refl _,fun _ _ _=>rfl⟩) fun x _ hx=>hx;generalize wq2.drewN nq=wq3 at*;obtain⟨c0,c1,c2,c3,c4,c5,c6,c7⟩:=EB.o wq3 (HBQ3.o _);have IE:=acA ((HBQ3.o sb).trans HSX.o);go_wp2_with (refine ak rfl 217 _ _ rfl sb _ rfl rfl _ IE.o (by kernel_rfl) (by kernel_rfl) (by kernel_rfl) ?_;intro w9 hrs;have HRS:=acA hrs;clear hrs c0 c1 c2 c3 c4 c5 c6 c7);go_roundw
           case rel=>
            refine⟨i+1,xV ⟨sa,sc,sd,se,sf,sg,sh,sj⟩ kk ww,by go_num,by omega,?_,by rw[MX];exact HRS.o.1,(HKS.o.trans HKQ3.o fun x _ hx=>False.elim hx).trans HRS.o.2.1 fun x _ hx=>hx⟩;show _=xV (nL (wL.of H) ws i) (kM.getD i 0) (ws.getD i 0);rw[←HST.o,HWK.o.1,HWK.o.2]
           case measure=>simp[intOf];omega
          ·have hd:decide ((i:Int)<64)=false:=by simp;omega
           have JJ:i=64:=by omega
           rw[JJ]at hst;obtain⟨L,hL⟩:∃L:List Int,L=(⟨sa,sc,sd,se,sf,sg,sh,sj⟩:wL).list:=⟨_,rfl⟩;rw[←hL]at hsx;have hL8:L.length=8:=by rw[hL];rfl
           have hLL:L=(nL (wL.of H) (fI blk 48) 64).list:=by rw[hL,hst,HWSE.o]
           have hzz:=HZA.o;have hhx:wr.heap[hb]? =some (.cells (H.map eP).toArray 217 (0,0)):=(hKs.block hb (by omega) (fun e:hb=sb=>by omega)).trans HWH.o;have hKh:Keeps (fun b=>b=hb) w1 wr:=HKA.o.trans hKs fun x hx (e:x=sb)=>by omega
           have HL8:=acA hL8;have FH:=acA hLL;have HSX2:=acA hsx;have HHX2:=acA hhx;have HKH:=acA hKh;have HZZ:=acA hzz;clear JJ hst hL hL8 hLL hsx hhx hKh hKs hi Ti HST HSX HKS hzz;go_wp2_with fail
           go_loopw [19] (fun iv wx=>∃i:Nat,iv= .int .i64 i∧i≤8∧wx.heap[hb]? =some (.cells (((iG H blk).take i++H.drop i).map eP++[]).toArray 217 (0,0))∧wx.heap[sb]? =some (.cells (L.map eP).toArray 217 (0,0))∧Keeps (fun b=>b=hb) w1 wx) (fun iv _=>8-(intOf iv).toNat)
           case atStart=>exact⟨0,rfl,by omega,by simpa using HHX2.o,HSX2.o,HKH.o⟩
           case round=>
            obtain⟨i,rfl,hi,hhx,hsx,hkx⟩:=hrel;have HHI:=acA hhx;have HSI:=acA hsx;have Yq:=acA hkx;by_cases H_:i<8
            ·have hd:decide ((i:Int)<8)=true:=by simp;omega
             have NY:=mX H blk H8.o;obtain⟨x,hx⟩:∃x,x=L.getD i 0:=⟨_,rfl⟩;obtain⟨y,hy⟩:∃y,y=H.getD i 0:=⟨_,rfl⟩;have d1:wr.cell? ⟨sb,i,none⟩=some (.int .u32 x):=by
              rw[hx];have:=Am HL8.o H_;simp only[World.cell?,hsx];exact this
             have d2:wr.cell? ⟨hb,i,none⟩=some (.int .u32 y):=by
              rw[hy];have:=GU (A:=iG H blk) (B:=H) (tail:=[]) NY H8.o H_;simp only[World.cell?,hhx];exact this
             have df:wr.frozen? ⟨hb,i,none⟩=false:=by simp[World.frozen?,hhx]
             have HXY:=acA (And.intro hx hy);have i8':(i:Int)<8:=by omega
             have i0:(0:Int)≤(i:Int):=by omega
             have hti:((i:Int)).toNat=i:=by omega
             clear hx hy hsx hhx hkx NY;go_wp2_with fail;refine qA 9 ((fun w'=>w'.cell? ⟨hb,i,none⟩=some (.int .u32 y)∧w'.cell? ⟨sb,i,none⟩=some (.int .u32 x)∧w'.frozen? ⟨hb,i,none⟩=false)) ?_ fun hS=> ?_
             ·exact⟨d2,d1,df⟩
             refine au 0 hS ?_;refine au 1 hS ?_;refine au 2 hS ?_;refine au 3 hS ?_;refine au 4 hS ?_;refine au 5 hS ?_;refine au 6 hS ?_;refine au 7 hS ?_;refine au 8 hS ?_;refine bB 9 fun K hK=> ?_;go_simp;refine kX hK ?_;clear hS hK K;go_wp2_with fail;go_roundw
             case rel=>
              have NY:=mX H blk H8.o;have e9:IJ (y+x)=(iG H blk).getD i 0:=by
               rw[Dl H8.o H_,←FH.o,HXY.o.1,HXY.o.2]
              refine⟨i+1,by go_num,by omega,?_,?_,?_⟩
              ·rw[←NW NY H8.o H_,←e9];exact aI (w:=wr.drew) HHI.o
              ·refine(aV wr.drew ⟨hb,i,none⟩ _ sb ?_).trans HSI.o;show sb≠hb;omega
              ·exact((Yq.o.trans (show Keeps (fun x=>x=hb) wr wr.drew from⟨rfl,rfl,rfl,Nat.le_refl _,fun _ _ _=>rfl⟩) fun x _ hx=>hx).trans (Keeps.f_ wr.drew ⟨hb,i,none⟩ _) fun x _ hx=>hx)
             case measure=>simp[intOf];omega
            ·have hd:decide ((i:Int)<8)=false:=by simp;omega
             have RI:i=8:=by omega
             have e1:(iG H blk).take 8=iG H blk:=List.take_of_length_le (by rw[mX H blk H8.o];omega);have e2:H.drop 8=[]:=abp (by rw[H8.o];omega);rw[RI,e1,e2,aaE,aaE]at hhx;have e3:iG H blk=runM vL (k+1) X:=by rw[wN,←Ry.o,HBLK.o,HP.o]
             rw[e3]at hhx;have HF:=acA hhx;have ewp:IntKind.i64.wrap ((p:Int)+64)=(p:Int)+64:=aak _ (by omega);clear e1 e2 e3 RI hhx hsx hkx hi H_;go_wp2_with fail;go_roundw
             case rel=>exact⟨k+1,p+64,by go_num,by have:=HP.o;omega,by omega,HF.o,Yq.o⟩
             case measure=>simp[intOf];omega
      ·have hd:decide (p<M)=false:=by have:=Zb.o;simp;omega
       as_aux_lemma=>
       have hkN:k=NB:=by omega
       have hXl:X.length=M:=by simpa using uO.o.length
       have hRE:BO H=nM bs:=by
        rw[U9,←HX.o,hXl,Zb.o,Nat.mul_div_cancel_left _ (by omega),←hkN,Ry.o]
       have sU:=acA hRE;have hwr:w.heap.size≤wr.heap.size:=Nat.le_trans HB1.o.size Tp.o.size;have EO:Below w.heap.size w wr:=HB1.o.trans (Tp.o.mh HB1.o.size fun x hx (e:x=hb)=>by omega);have HBO:=acA EO;obtain⟨wo,rfl⟩:∃wo:World,wo=wr:=⟨_,rfl⟩;have QL:hb<wo.heap.size:=(iA.1 HHX.o).1;clear hp hkN hXl hRE EO hk hlt hpM;go_wp2_with fail
       go_loopw [20,21] (fun v iv wx=>∃(i:Nat) (a':Option Addr) (c':Nat),v= .slice a' (4*i) c'∧iv= .int .i64 i∧i≤8∧wx.ownsRow wo.heap.size 5 1 v (4*i) ((BO (H.take i)).map bv)∧Below wo.heap.size wo wx) (fun _ iv _=>8-(intOf iv).toNat)
       case atStart=>exact⟨0,none,0,rfl,rfl,by omega,⟨rfl,.inl ⟨rfl,rfl⟩⟩,Below.refl _ _⟩
       case round=>
        obtain⟨i,a2,c2,rfl,rfl,hi,hown,hbx⟩:=hrel;have zL:=acA hown;have rD:=acA hbx;by_cases H_:i<8
        ·have hd:decide ((i:Int)<8)=true:=by simp;omega
         obtain⟨z,hz⟩:∃z,z=H.getD i 0:=⟨_,rfl⟩;have hcz:wr.cell? ⟨hb,i,none⟩=some (.int .u32 z):=by
          rw[hz];exact hA_get H8.o ((hbx.block hb QL).trans HHX.o) H_
         have HCZ:acB (∀w',Below wr.heap.size wr w'→w'.cell? ⟨hb,i,none⟩=some (.int .u32 z)):=fun w' h=>(h.cell (p:=⟨hb,i,none⟩) (Pd QL hbx.size)).trans hcz;have HZ:=acA hz;have i8':(i:Int)<8:=by omega
         have i0:(0:Int)≤(i:Int):=by omega
         have hti:((i:Int)).toNat=i:=by omega
         clear hz hown hbx hcz;go_wp2_with fail;refine qA 22 ((fun w'=>w'.cell? ⟨hb,i,none⟩=some (.int .u32 z))) ?_ fun hS=> ?_
         ·exact HCZ.o _ acD.drew
         refine au 0 hS ?_;refine au 1 hS ?_;refine au 2 hS ?_;refine au 3 hS ?_;refine au 4 hS ?_;refine au 5 hS ?_;refine au 6 hS ?_;refine au 7 hS ?_;refine au 8 hS ?_;refine au 9 hS ?_;refine au 10 hS ?_;refine au 11 hS ?_;refine au 12 hS ?_;refine au 13 hS ?_;refine au 14 hS ?_;refine au 15 hS ?_;refine au 16 hS ?_;refine au 17 hS ?_;refine au 18 hS ?_;refine au 19 hS ?_;refine bB 20 fun K hK=> ?_;go_simp;refine bK hK (HCZ.o _ (acD.drew.alloc acC _)) fun hS=> ?_;clear hK K;refine bB 21 fun K hK=> ?_;refine aF (by rfl) (.tmp 244) (.tmp 264) 28 (by rfl) wo.heap.size 5 i8 _ 1 1 Tryz.underlying28 HI.o.1 HI.o.2.1 HI.o.2.2.1 HI.o.2.2.2 rfl (by omega) _ (4*i) ((BO (H.take i)).map bv) (by rfl) (dJ zL.o fun b hb hbw=>(wall wr.drew _).block b hbw) _ 4 _ [.int .u8 (z/16777216%256),.int .u8 (z/65536%256),.int .u8 (z/256%256),.int .u8 (z%256)] (by rfl) (jY (w:=wr.drew) [.int .u8 (z/16777216%256),.int .u8 (z/65536%256),.int .u8 (z/256%256),.int .u8 (z%256)] 5 (by simp[maxLen])) (by simp[Value.oneCell']) (by unfold maxLen;omega) (by omega) (by have:=rD.o.size;simp;omega) ?_;intro A9 c9 w9 nS cO;have uL:=acA ((rD.o.trans (((Below.refl wr.heap.size wr).drew.alloc acC _).mono rD.o.size)).trans cO);have TA:=acA nS;refine bK hK ((cO.cell (p:=⟨hb,i,none⟩) QL).trans (HCZ.o _ (acD.drew.alloc acC _))) fun hS=> ?_;clear hK K;clear nS cO;refine bB 22 fun K hK=> ?_;go_simp;refine kX hK ?_;clear hS hK K;go_wp2_with fail;go_roundw
         case rel=>
          have e9:4*(i+1)=4*i+4:=by omega
          refine⟨i+1,A9,c9,by rw[e9],by go_num,by omega,?_,uL.o⟩;rw[e9,FI (by rw[H8.o];exact H_),List.map_append,←HZ.o,←be4];exact TA.o
         case measure=>simp[intOf];omega
        ·have hd:decide ((i:Int)<8)=false:=by simp;omega
         have RI:i=8:=by omega
         have h9:=zL.o;rw[RI,List.take_of_length_le (by rw[H8.o];exact Nat.le_refl 8),sU.o]at h9;have H9:=acA h9;have Hu:=acA RI;clear h9 RI hown hi H_;go_wp2_with fail;go_ret;have h9:=H9.o;have e4:4*8=(nM bs).length:=(JK bs).symm;rw[Hu.o];rw[e4]at h9⊢;exact⟨a2,c2,rfl,zk h9 hwr,HBO.o.trans (rD.o.mono hwr)⟩
    |succ k=>
     have hk0:(0:Int)≤k:=by omega
     have e3:8*((k+1:Nat):Int)-8=8*(k:Int):=by omega
     rw[e3];have e4:IntKind.u64.wrap (8*(k:Int))=8*(k:Int):=by simp[IntKind.wrap,IntKind.bits,IntKind.signed];omega
     have e5:IntKind.i64.wrap (8*(k:Int)-8)=8*(k:Int)-8:=aak _ (by omega);have hge:decide ((0:Int)≤8*(k:Int))=true:=by simp;omega
     have hge2:(0:Int)≤8*(k:Int):=by omega
     obtain⟨m3,Fx⟩:∃m3,m3=m+dn.length:=⟨_,rfl⟩;rw[←Fx]at GY⊢;have HM3:=acA Fx;have hm3b:m3≤n+80:=by omega
     have hbw:=nY hN0 k;obtain⟨b0,hb0⟩:∃b0,b0=UInt8.ofNat ((N/2^(8*k)).toNat%256):=⟨_,rfl⟩;rw[←hb0]at hbw;have HBV:acB (Value.int .u8 (N/2^(8*k)%256)=bv b0):=by
      show Value.int .u8 (N/2^(8*k)%256)=bv b0;have e9:(8*(k:Int)).toNat=8*k:=by omega
      rw[e9]at hbw;simp only[IntKind.wrap,IntKind.bits,IntKind.signed]at hbw;simp at hbw;simp[bv];omega
     have HB0:=acA hb0;clear hb0 hbw Fx;go_wp2_with (at_builtin;refine dQ rfl _ _ 28 rfl w.heap.size 5 i8 _ 1 1 Tryz.underlying28 HI.o.1 HI.o.2.1 HI.o.2.2.1 HI.o.2.2.2 rfl (by omega) (.slice a1 m3 c1) m3 ((P++dn).map bv) rfl (dJ GY.o fun b hb hbw=>(wall wr _).block b hbw) (some ⟨wr.heap.size,0,none⟩) 1 1 [.int .u8 (N/2^(8*k)%256)] rfl (jY (w:=wr) [.int .u8 (N/2^(8*k)%256)] 5 (by simp[maxLen])) (by simp[Value.oneCell']) (by unfold maxLen;omega) (by omega) (by have:=HB3.o.size;simp;omega) ?_;intro A4 c4 w4 kL hb4;have L_:=acA kL;have dY:=acA ((HB3.o.trans ((wall wr _).mono HB3.o.size)).trans hb4);clear kL hb4);go_roundw
     case rel=>
      have e9:m+(dn++[b0]).length=m3+1:=by have:=HM3.o;simp;omega
      refine⟨k,dn++[b0],A4,c4,by omega,by go_num,?_,by simp;omega,by rw[e9],?_,dY.o⟩
      ·rw[aau,←Cc.o,HB0.o];rfl
      ·rw[e9];have h8:=L_.o;rw[HBV.o]at h8;simpa using h8
     case measure=>simp[intOf];omega
  ·have h56:¬m%64=56:=fun e=>hjz (hsp.1 e);have hd:((m:Int)%64 !=56)=true:=by simp;omega
   clear hsp;go_wp2_with (at_builtin;refine dQ rfl _ _ 28 rfl w.heap.size 5 i8 _ 1 1 Tryz.underlying28 HI.o.1 HI.o.2.1 HI.o.2.2.1 HI.o.2.2.2 rfl (by omega) (.slice a' m c') m ((bs++[128]++List.replicate j 0).map bv) rfl (dJ HO.o fun b hb hbw=>(wall wr _).block b hbw) (some ⟨wr.heap.size,0,none⟩) 1 1 [bv 0] rfl (jY (w:=wr) [bv 0] 5 (by simp[maxLen])) (by simp[Value.oneCell',bv]) (by unfold maxLen;omega) (by omega) (by have:=HB.o.size;simp;omega) ?_;intro A4 c4 w4 kL hb4;have L_:=acA kL;have dY:=acA ((HB.o.trans ((wall wr _).mono HB.o.size)).trans hb4);clear kL hb4);go_roundw
   case rel=>
    have e9:n+1+(j+1)=m+1:=by have:=HM.o;omega
    refine⟨j+1,A4,c4,by rw[e9],by omega,?_,dY.o⟩;rw[e9,List.replicate_succ'];simpa using L_.o
   case measure=>show n+200-(m+1)<n+200-m;have:=HM.o;omega
end Go.Proofs.YtjnhnlabpccgjaaGreatDoor
