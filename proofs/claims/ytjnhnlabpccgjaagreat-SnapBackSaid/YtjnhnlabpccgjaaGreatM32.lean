/- permafrostref2.Sum. -/
import Derived.Test.YtjnhnlabpccgjaaGreatM30
import Derived.Test.YtjnhnlabpccgjaaGreatM21
import Derived.Test.YtjnhnlabpccgjaaGreatM12
import Derived.Test.YtjnhnlabpccgjaaGreatM19
import Derived.Test.YtjnhnlabpccgjaaGreatM31
import Derived.Test.YtjnhnlabpccgjaaGreatM24
import Derived.Deep.WholeRow
import Derived.BigQuiet
import Derived.Deep.QuietTactic
namespace Go.Proofs.YtjnhnlabpccgjaaGreat
open Go.ChangeShapes Go.WideShapes Go.ChangeAt Go.RowKit
set_option linter.unusedVariables false
set_option linter.unusedSimpArgs false
theorem LH {w:World} {b i:Nat} (h:w.heap[b]? =some (.cells tC 194 (0,0))) (hi:i<64):w.cell? ⟨b,i,none⟩=some (dJ (kM.getD i 0)):=by
 have hk:kM.length=64:=rfl
 simp only[World.cell?,h]
 show((kM.map dJ).toArray)[i]? =_
 rw[List.getElem?_toArray,List.getElem?_map,List.getD_eq_getElem?_getD,List.getElem?_eq_getElem (by rw[hk];exact hi)]
 rfl
theorem Fq (w:World) (b:Nat) (hb:b=w.heap.size):(Instr.storeAt 194 (.pointer (some ⟨b,0,none⟩)) (.agg tC)).run Tryz.prog (w.alloc (.cells z64 194))= .ok () (w.alloc (.cells tC 194)):=by
 subst hb
 exact zn w
set_option maxRecDepth 100000 in
set_option maxHeartbeats 16000000 in
theorem PE {S:Nat→Prop} (a:Option Addr) (n c:Nat) (bs:List UInt8) (w:World) (hr:ah S w a n (bs.map bv)) (hn:n≤100000000):Calls Tryz.prog 90 #[.slice a n c] w (eO w (jR bs)):=by
 obtain⟨i8,hi⟩:∃i,Tryz.prog.info? 5=some i∧i.zero=some (.int .u8 0)∧i.size=1∧i.bytes=1:=info_parts (by kernel_rfl)
 have HI:=Lib.hid hi
 have hln:bs.length=n:=by simpa using hr.length
 have Le:=Lib.hid hln
 have Sj:=Lib.hid (show(w.alloc (.cells #[] 5)).ownsRow w.heap.size 5 1 (.slice (some ⟨w.heap.size,0,none⟩) 0 0) 0 []from World.ownsRow_lit w #[] 0 (Nat.le_refl _) (by decide) rfl)
 have Sk:Hid (ah S (w.alloc (.cells #[] 5)) a n (bs.map bv)):=hr.below (wall w _) (Nat.le_refl _)
 have tH:=Lib.hid (wall w (.cells #[] 5))
 have OJ:(w.alloc (.cells #[] 5)).heap.size=w.heap.size+1:=by simp
 have HSK:=Lib.hid Fq
 clear hr hi hln
 go_enter Tryz.func90,Tryz.ntmps90
 go_wp2_with (at_builtin;go_loud (first|(refine aO rfl _ _ 23 rfl w.heap.size 5 i8 _ 1 Tryz.underlying23 HI.out.1 HI.out.2.1 HI.out.2.2.1 HI.out.2.2.2 rfl _ 0 [] rfl Sj.out a n c (bs.map bv) rfl Sk.out (dH bs) (by unfold maxLen;omega) (by omega) (by omega) ?_;intro A1 c1 u1 hown1 hg1 _ qO;simp only[Nat.zero_add,List.nil_append]at hown1 qO;have CK:=Lib.hid (eU hg1 (sw w) tH.out);have hs1:=CK.out.size;have Fe:=Lib.hid (gH (w:=u1) [bv 128] 5 (by unfold maxLen;simp));have T9:=Lib.hid (sD hown1 (.cells #[bv 128] 5));have AP:=Lib.hid (wall u1 (.cells #[bv 128] 5));have hzB:(u1.alloc (.cells #[.int .u8 128] 5)).heap.size=u1.heap.size+1:=(by simp);have ZO:=Lib.hid (zY hown1 qO);clear hown1 hg1 qO;(try simp only[Nat.zero_add]))|(refine aO rfl _ _ 23 rfl w.heap.size 5 i8 _ 1 Tryz.underlying23 HI.out.1 HI.out.2.1 HI.out.2.2.1 HI.out.2.2.2 rfl _ n (bs.map bv) rfl T9.out _ 1 1 [bv 128] rfl Fe.out (dH [128]) (by unfold maxLen;omega) (by omega) (by omega) ?_;intro A2 c2 u2 hown2 hg2 _ Dk;have HG2:=Lib.hid (eU hg2 ZO.out (CK.out.trans (AP.out.mono CK.out.size)));have CO:=Lib.hid hown2;clear hown2 hg2 Dk)))
 go_loopw [3] (fun v wr=>∃(j:Nat) (a':Option Addr) (c':Nat),v= .slice a' (n+1+j) c'∧j≤jQ n∧wr.ownsRow w.heap.size 5 1 (.slice a' (n+1+j) c') (n+1+j) ((bs++[128]++List.replicate j 0).map bv)∧Below w.heap.size w wr) (fun v _=>n+200-(match v with| .slice _ m _=>m|_=>0))
 case atStart=>exact⟨0,A2,c2,rfl,Nat.zero_le _,by simpa using CO.out,HG2.out⟩
 case round=>
  obtain⟨j,a',c',rfl,hj,hown,hb⟩:=hrel
  have HO:=Lib.hid hown
  have HB:=Lib.hid hb
  have hz:=BQ n
  have hsp:=wW n j hj
  obtain⟨m,hm⟩:∃m,m=n+1+j:=⟨_,rfl⟩
  rw[←hm]at HO hsp⊢
  have HM:=Lib.hid hm
  have Yz:m≤n+65:=by omega
  clear hown hb hm
  by_cases hjz:j=jQ n
  ·have YA:m%64=56:=hsp.2 hjz
   have hd:((m:Int)%64 !=56)=false:=by simp;omega
   have e1:IntKind.u64.wrap (n:Int)=(n:Int):=by simp[IntKind.wrap,IntKind.bits,IntKind.signed];omega
   have e2:IntKind.u64.wrap ((n:Int)*8)=(n:Int)*8:=by simp[IntKind.wrap,IntKind.bits,IntKind.signed];omega
   obtain⟨P,hP⟩:∃P,P=bs++[128]++List.replicate j 0:=⟨_,rfl⟩
   rw[←hP]at HO
   have HPE:Hid (P=bs++[128]++List.replicate (jQ bs.length) 0):=by
    show P=_
    rw[hP,hjz,Le.out]
   have Ji:Hid ((m+8)%64=0):=by show(m+8)%64=0;omega
   clear hsp YA hjz hP
   go_wp2_with fail
   obtain⟨N,hN⟩:∃N:Int,N=(n:Int)*8:=⟨_,rfl⟩
   rw[←hN]
   have hN0:0≤N:=by omega
   have HN:=Lib.hid hN
   clear hN e2
   obtain⟨wq,rfl⟩:∃wq:World,wq=wr:=⟨_,rfl⟩
   go_loopw [3,5] (fun v kv wr=>∃(k:Nat) (dn:List UInt8) (a1:Option Addr) (c1:Nat),k≤8∧kv= .int .i64 (8*(k:Int)-8)∧dn++dR N k=dR N 8∧dn.length+k=8∧v= .slice a1 (m+dn.length) c1∧wr.ownsRow w.heap.size 5 1 (.slice a1 (m+dn.length) c1) (m+dn.length) ((P++dn).map bv)∧Below w.heap.size w wr) (fun _ kv _=>((intOf kv)+8).toNat)
   case atStart=>exact⟨8,[],a',c',by omega,rfl,rfl,rfl,rfl,by simpa using HO.out,HB.out⟩
   case round=>
    obtain⟨k,dn,a1,c1,hk,rfl,hdn,hdl,rfl,hown,hB⟩:=hrel
    have vJ:=Lib.hid hdn
    have Hf:=Lib.hid hown
    have HB3:=Lib.hid hB
    have ZQ:=hB.size
    clear hdn hown hB
    cases k with
    |zero=>
     have e0:8*((0:Nat):Int)-8= -8:=by omega
     rw[e0]
     have Ow:dn=dR N 8:=by
      have h9:dn++[]=dR N 8:=vJ.out
      rwa [List.append_nil]at h9
     have HPAD:Hid (P++dn=mM bs bs.length):=by
      show P++dn=mM bs bs.length
      unfold mM
      rw[HPE.out,Ow,HN.out,Le.out]
     have WB:dn.length=8:=by omega
     rw[WB,HPAD.out]at Hf
     rw[WB]
     obtain⟨X,hX⟩:∃X,X=mM bs bs.length:=⟨_,rfl⟩
     rw[←hX]at Hf
     have HX:=Lib.hid hX
     obtain⟨NB,hNB⟩:∃NB,NB=(m+8)/64:=⟨_,rfl⟩
     obtain⟨M,hMe⟩:∃M,M=m+8:=⟨_,rfl⟩
     have Ub:Hid (M=64*NB):=by show M=64*NB;have:=Ji.out;omega
     have hMle:M≤100000100:=by omega
     rw[←hMe]at Hf⊢
     clear Ow hdl WB hX hNB hMe e0
     go_upto_region 10 with(fail)
     go_wp2_with (first|(refine oV (v:= .agg tC) rfl 194 _ rfl (by kernel_rfl) ?_)|(refine lG rfl 194 _ _ rfl (HSK.out _ _ (by simp)) ?_))
     have hbs1:=HB3.out.size
     have WC:=HB3.out.size
     have hT8:=(MapKept.heap_alloc wr (.cells (rz.map dJ).toArray 193)).1
     have ZW:=(MapKept.heap_alloc (wr.alloc (.cells (rz.map dJ).toArray 193)) (.cells tC 194)).1
     have hBk:=wall (wr.alloc (.cells (rz.map dJ).toArray 193)) (.cells tC 194)
     have YP:(wr.alloc (.cells (rz.map dJ).toArray 193)).heap.size=wr.heap.size+1:=by simp
     have hBw:Below wr.heap.size wr ((wr.alloc (.cells (rz.map dJ).toArray 193)).alloc (.cells tC 194)):=(wall wr _).trans (hBk.mono (by rw[YP];omega))
     obtain⟨w1,hw1⟩:∃w1:World,w1=(wr.alloc (.cells #[.int .u32 1779033703, .int .u32 3144134277, .int .u32 1013904242, .int .u32 2773480762, .int .u32 1359893119, .int .u32 2600822924, .int .u32 528734635, .int .u32 1541459225] 193)).alloc (.cells tC 194):=⟨_,rfl⟩
     obtain⟨hb,XL⟩:∃hb,hb=wr.heap.size:=⟨_,rfl⟩
     have hH1:w1.heap[hb]? =some (.cells (rz.map dJ).toArray 193 (0,0)):=by rw[hw1,XL];exact(hBk.block _ (by rw[YP];omega)).trans hT8
     have hK1:w1.heap[hb+1]? =some (.cells tC 194 (0,0)):=by rw[hw1,XL,←YP];exact ZW
     have hB1:Below w.heap.size w w1:=by rw[hw1];exact HB3.out.trans (hBw.mono WC)
     have hO1:ah (fun b=>b<hb) w1 a1 M (X.map bv):=by
      obtain⟨-,-,hr1⟩:=ah.nZ Hf.out (by unfold maxLen;omega)
      rw[Nat.mul_one]at hr1
      rw[hw1,XL]
      exact(hr1.below hBw (Nat.le_refl _)).mono fun b hb=>hb.2
     have hhw:w.heap.size≤hb:=by rw[XL];exact WC
     rw[←hw1,←XL]
     have HH1:=Lib.hid hH1
     have sF:=Lib.hid hK1
     have HB1:=Lib.hid hB1
     have rD:=Lib.hid hO1
     clear hT8 ZW hBk YP hBw hw1 XL hH1 hK1 hB1 hO1 WC
     go_loopw [8] (fun v wx=>∃(k p:Nat),v= .int .i64 p∧p=64*k∧k≤NB∧wx.heap[hb]? =some (.cells ((runM rz k X).map dJ).toArray 193 (0,0))∧Keeps (fun b=>b=hb) w1 wx) (fun v _=>M-(intOf v).toNat)
     case atStart=>exact⟨0,0,rfl,rfl,Nat.zero_le _,HH1.out,Keeps.refl _ _⟩
     case round=>
      obtain⟨k,p,rfl,hp,hk,hh,hKx⟩:=hrel
      have h8:=lT k rz X rfl
      have hnn:=JC k rz X Wy
      obtain⟨H,hH⟩:∃H,H=runM rz k X:=⟨_,rfl⟩
      rw[←hH]at hh h8 hnn
      have Bd:=Lib.hid hH
      have HHX:=Lib.hid hh
      have xL:=Lib.hid hKx
      have H8:=Lib.hid h8
      have pJ:=Lib.hid hnn
      have HP:=Lib.hid hp
      have hpM:p≤64*NB:=by omega
      clear hh hKx h8 hnn hH
      by_cases hlt:k<NB
      ·have hd:decide (p<M)=true:=by have:=Ub.out;simp;omega
       have hpk:p+64≤M:=by have:=Ub.out;omega
       have ht:(p:Int)<(M:Int):=by omega
       obtain⟨wo,rfl⟩:∃wo:World,wo=wr:=⟨_,rfl⟩
       clear hp
       go_wp2_with fail
       obtain⟨blk,hblk⟩:∃blk,blk=(X.drop p).take 64:=⟨_,rfl⟩
       have ZX:=Lib.hid hblk
       clear hblk
       go_loopw [10,11,12] (fun iv _ _ wx=>∃j:Nat,iv= .int .i64 j∧j≤64∧wx.heap[wo.heap.size]? =some (.cells (AL (oH blk j)) 194 (0,0))∧Below wo.heap.size wo wx) (fun iv _ _ _=>64-(intOf iv).toNat)
       case atStart=>exact⟨0,rfl,by omega,(MapKept.heap_alloc wo _).1,wall wo _⟩
       case round=>
        obtain⟨j,rfl,hj,hw,hbx⟩:=hrel
        have hwl:=Px blk j
        by_cases h64:j<64
        ·have hd:decide ((j:Int)<64)=true:=by simp;omega
         have hz:=CZ hw (Nat.le_of_eq hwl) h64
         have hfz:wr.frozen? ⟨wo.heap.size,j,none⟩=false:=by simp[World.frozen?,hw]
         have HW:=Lib.hid hw
         have QK:=Lib.hid hbx
         have ZY:=Lib.hid hwl
         have j64:(j:Int)<64:=by omega
         have j0:(0:Int)≤(j:Int):=by omega
         have htj:((j:Int)).toNat=j:=by omega
         by_cases h16:j<16
         ·as_aux_lemma=>
          have hd16:decide ((j:Int)<16)=true:=by simp;omega
          have hrow:ah (fun b=>b<hb) wr a1 M (X.map bv):=rD.out.move (Nat.le_trans xL.out.size hbx.size) fun b hb' hbw=>⟨hb',(hbx.block b (Nat.lt_of_lt_of_le hbw xL.out.size)).trans (xL.out.block b hbw (fun e:b=hb=>by omega))⟩
          obtain⟨rb,ro,rfl,hrs,hrb,hrc⟩:=hrow.at_ (by omega)
          obtain⟨q,hq⟩:∃q,q=p+4*j:=⟨_,rfl⟩
          obtain⟨q1,hq1⟩:∃q1,q1=q+1:=⟨_,rfl⟩
          obtain⟨q2,hq2⟩:∃q2,q2=q+2:=⟨_,rfl⟩
          obtain⟨q3,hq3⟩:∃q3,q3=q+3:=⟨_,rfl⟩
          have l0:q<M:=by omega
          have l1:q1<M:=by omega
          have l2:q2<M:=by omega
          have l3:q3<M:=by omega
          have c0:=uR hrow l0
          have c1:=uR hrow l1
          have c2:=uR hrow l2
          have c3:=uR hrow l3
          have ew:IntKind.i64.wrap (4*(j:Int))=4*(j:Int):=IntWalk.i64_in _ (by omega)
          have eq0:IntKind.i64.wrap ((p:Int)+4*(j:Int))=(q:Int):=by rw[IntWalk.i64_in _ (by omega)];omega
          have eq1:IntKind.i64.wrap ((q:Int)+1)=(q1:Int):=by rw[IntWalk.i64_in _ (by omega)];omega
          have eq2:IntKind.i64.wrap ((q:Int)+2)=(q2:Int):=by rw[IntWalk.i64_in _ (by omega)];omega
          have eq3:IntKind.i64.wrap ((q:Int)+3)=(q3:Int):=by rw[IntWalk.i64_in _ (by omega)];omega
          have i0:(q:Int)<(M:Int):=by omega
          have i1:(q1:Int)<(M:Int):=by omega
          have i2:(q2:Int)<(M:Int):=by omega
          have i3:(q3:Int)<(M:Int):=by omega
          have HWD:Hid (rA blk j=wU (X.getD q 0) (X.getD q1 0) (X.getD q2 0) (X.getD q3 0)):=by
           show rA blk j=_
           rw[ZX.out,Sw X p j h16,hq1,hq2,hq3,hq]
          generalize X.getD q 0=b0 at*
          generalize X.getD q1 0=b1 at*
          generalize X.getD q2 0=b2 at*
          generalize X.getD q3 0=b3 at*
          clear hq hq1 hq2 hq3 hrow hrs hrb hrc hw hbx hwl
          go_wp2_with fail
          refine qF 43 ((fun w'=>(w'.cell? ⟨rb,ro+q,none⟩=some (.int .u8 (b0.toNat:Int))∧w'.cell? ⟨rb,ro+q1,none⟩=some (.int .u8 (b1.toNat:Int))∧w'.cell? ⟨rb,ro+q2,none⟩=some (.int .u8 (b2.toNat:Int))∧w'.cell? ⟨rb,ro+q3,none⟩=some (.int .u8 (b3.toNat:Int)))∧w'.cell? ⟨wo.heap.size,j,none⟩=some (.int .u32 0)∧w'.frozen? ⟨wo.heap.size,j,none⟩=false)) ?_ fun hS=> ?_
          ·exact⟨⟨c0,c1,c2,c3⟩,hz,hfz⟩
          refine ak 0 hS ?_
          refine ak 1 hS ?_
          refine ak 2 hS ?_
          refine ak 3 hS ?_
          refine ak 4 hS ?_
          refine ak 5 hS ?_
          refine ak 6 hS ?_
          refine ak 7 hS ?_
          refine ak 8 hS ?_
          refine ak 9 hS ?_
          refine ak 10 hS ?_
          refine ak 11 hS ?_
          refine ak 12 hS ?_
          refine ak 13 hS ?_
          refine ak 14 hS ?_
          refine ak 15 hS ?_
          refine ak 16 hS ?_
          refine ak 17 hS ?_
          refine ak 18 hS ?_
          refine ak 19 hS ?_
          refine ak 20 hS ?_
          refine ak 21 hS ?_
          refine ak 22 hS ?_
          refine ak 23 hS ?_
          refine ak 24 hS ?_
          refine ak 25 hS ?_
          refine ak 26 hS ?_
          refine ak 27 hS ?_
          refine ak 28 hS ?_
          refine ak 29 hS ?_
          refine ak 30 hS ?_
          refine ak 31 hS ?_
          refine ak 32 hS ?_
          refine ak 33 hS ?_
          refine ak 34 hS ?_
          refine ak 35 hS ?_
          refine ak 36 hS ?_
          refine ak 37 hS ?_
          refine ak 38 hS ?_
          refine ak 39 hS ?_
          refine ak 40 hS ?_
          refine ak 41 hS ?_
          refine ak 42 hS ?_
          refine bK 43 fun K hK=> ?_
          go_simp
          refine j_ hK ?_
          clear hS hK K
          go_wp2_with fail
          go_roundw
          case rel=>
           refine⟨j+1,by go_num,by omega,?_,?_⟩
           ·have h9:=C8 (w:=wr.drew) HW.out (by rw[ZY.out];omega) (rA blk j)
            rw[ZY.out,←JA blk h16,HWD.out,←PD]at h9
            exact h9
           ·exact rZ (Vj QK.out) QK.out.size (Nat.le_refl _) _ _
          case measure=>simp[intOf];omega
         ·as_aux_lemma=>
          have hd16:decide ((j:Int)<16)=false:=by simp;omega
          have s15:=lK hw (show j-15<_ by rw[hwl];omega)
          have s2:=lK hw (show j-2<_ by rw[hwl];omega)
          have s16:=lK hw (show j-16<_ by rw[hwl];omega)
          have s7:=lK hw (show j-7<_ by rw[hwl];omega)
          have e15:IntKind.i64.wrap ((j:Int)-15)=(j:Int)-15:=IntWalk.i64_in _ (by omega)
          have e2:IntKind.i64.wrap ((j:Int)-2)=(j:Int)-2:=IntWalk.i64_in _ (by omega)
          have e16:IntKind.i64.wrap ((j:Int)-16)=(j:Int)-16:=IntWalk.i64_in _ (by omega)
          have e7:IntKind.i64.wrap ((j:Int)-7)=(j:Int)-7:=IntWalk.i64_in _ (by omega)
          have n15:((j:Int)-15).toNat=j-15:=by omega
          have n2:((j:Int)-2).toNat=j-2:=by omega
          have n16:((j:Int)-16).toNat=j-16:=by omega
          have n7:((j:Int)-7).toNat=j-7:=by omega
          have g15:(0:Int)≤(j:Int)-15:=by omega
          have g2':(0:Int)≤(j:Int)-2:=by omega
          have g16:(0:Int)≤(j:Int)-16:=by omega
          have g7:(0:Int)≤(j:Int)-7:=by omega
          have l15:(j:Int)-15<64:=by omega
          have l2:(j:Int)-2<64:=by omega
          have l16:(j:Int)-16<64:=by omega
          have l7:(j:Int)-7<64:=by omega
          have q16:(16:Int)≤(j:Int):=by omega
          have q7:(7:Int)≤(j:Int):=by omega
          have hn:=Dm blk j
          have p15:=lN hn (j-15)
          have p2:=lN hn (j-2)
          clear hn
          obtain⟨w15,G6⟩:∃z,z=(oH blk j).getD (j-15) 0:=⟨_,rfl⟩
          obtain⟨w2,hw2⟩:∃z,z=(oH blk j).getD (j-2) 0:=⟨_,rfl⟩
          obtain⟨w16,hw16⟩:∃z,z=(oH blk j).getD (j-16) 0:=⟨_,rfl⟩
          obtain⟨w7,hw7⟩:∃z,z=(oH blk j).getD (j-7) 0:=⟨_,rfl⟩
          rw[←G6]at s15 p15
          rw[←hw2]at s2 p2
          rw[←hw16]at s16
          rw[←hw7]at s7
          have N8:=Lib.hid (And.intro G6 (And.intro hw2 (And.intro hw16 hw7)))
          have r7:Hid (∀(x:Int) (w:World),0≤x→Calls Tryz.prog 142 #[.int .u32 x, .int .u64 7] w fun e w'=>e= .returned (.int .u32 (jA x 25))∧w=w'):=fun x w h=>rt 7 rfl x w h (by omega) (by omega)
          have r18:Hid (∀(x:Int) (w:World),0≤x→Calls Tryz.prog 142 #[.int .u32 x, .int .u64 18] w fun e w'=>e= .returned (.int .u32 (jA x 14))∧w=w'):=fun x w h=>rt 18 rfl x w h (by omega) (by omega)
          have r17:Hid (∀(x:Int) (w:World),0≤x→Calls Tryz.prog 142 #[.int .u32 x, .int .u64 17] w fun e w'=>e= .returned (.int .u32 (jA x 15))∧w=w'):=fun x w h=>rt 17 rfl x w h (by omega) (by omega)
          have r19:Hid (∀(x:Int) (w:World),0≤x→Calls Tryz.prog 142 #[.int .u32 x, .int .u64 19] w fun e w'=>e= .returned (.int .u32 (jA x 13))∧w=w'):=fun x w h=>rt 19 rfl x w h (by omega) (by omega)
          clear G6 hw2 hw16 hw7 hw hbx hwl
          go_wp2_with fail
          go_quiet (fail)
          have t16:(wr.drewN nq).cell? ⟨wo.heap.size,j-16,none⟩=some (.int .u32 w16):=s16
          have t7:(wr.drewN nq).cell? ⟨wo.heap.size,j-7,none⟩=some (.int .u32 w7):=s7
          have tz:(wr.drewN nq).cell? ⟨wo.heap.size,j,none⟩=some (.int .u32 0):=hz
          have tf:(wr.drewN nq).frozen? ⟨wo.heap.size,j,none⟩=false:=hfz
          have N9:(wr.drewN nq).heap[wo.heap.size]? =some (.cells (AL (oH blk j)) 194 (0,0)):=HW.out
          have N_:Below wo.heap.size wo (wr.drewN nq):=⟨QK.out.os,QK.out.tape,QK.out.output,QK.out.size,QK.out.block⟩
          generalize wr.drewN nq=wq at*
          have Vk:=Lib.hid N9
          have G7:=Lib.hid N_
          clear N9 N_ s15 s2 s16 s7 hz hfz
          go_wp2_with fail
          refine qF 29 ((fun w'=>w'.cell? ⟨wo.heap.size,j-16,none⟩=some (.int .u32 w16)∧w'.cell? ⟨wo.heap.size,j-7,none⟩=some (.int .u32 w7)∧w'.cell? ⟨wo.heap.size,j,none⟩=some (.int .u32 0)∧w'.frozen? ⟨wo.heap.size,j,none⟩=false)) ?_ fun hS=> ?_
          ·exact⟨t16,t7,tz,tf⟩
          refine ak 0 hS ?_
          refine ak 1 hS ?_
          refine ak 2 hS ?_
          refine ak 3 hS ?_
          refine ak 4 hS ?_
          refine ak 5 hS ?_
          refine ak 7 hS ?_
          refine ak 10 hS ?_
          refine ak 11 hS ?_
          refine ak 14 hS ?_
          refine ak 15 hS ?_
          refine ak 16 hS ?_
          refine ak 17 hS ?_
          refine ak 19 hS ?_
          refine ak 21 hS ?_
          refine ak 24 hS ?_
          refine ak 25 hS ?_
          refine bK 6 fun K hK=> ?_
          go_simp
          (with_reducible refine(r7.out _ _ p15).mono ?_)
          rintro e w5 ⟨rfl,rfl⟩
          go_wp2_with fail
          refine bR hK (hS) fun hS=> ?_
          clear hK K
          refine bK 8 fun K hK=> ?_
          go_simp
          (with_reducible refine(r18.out _ _ p15).mono ?_)
          rintro e w5 ⟨rfl,rfl⟩
          go_wp2_with fail
          refine bR hK (hS) fun hS=> ?_
          clear hK K
          refine ak 9 hS ?_
          refine ak 12 hS ?_
          refine ak 13 hS ?_
          refine ak 18 hS ?_
          refine bK 20 fun K hK=> ?_
          go_simp
          (with_reducible refine(r17.out _ _ p2).mono ?_)
          rintro e w5 ⟨rfl,rfl⟩
          go_wp2_with fail
          refine bR hK (hS) fun hS=> ?_
          clear hK K
          refine bK 22 fun K hK=> ?_
          go_simp
          (with_reducible refine(r19.out _ _ p2).mono ?_)
          rintro e w5 ⟨rfl,rfl⟩
          go_wp2_with fail
          refine bR hK (hS) fun hS=> ?_
          clear hK K
          refine ak 23 hS ?_
          refine ak 26 hS ?_
          refine ak 27 hS ?_
          refine ak 28 hS ?_
          refine bK 29 fun K hK=> ?_
          go_simp
          refine j_ hK ?_
          clear hS hK K
          go_wp2_with fail
          go_roundw
          case rel=>
           refine⟨j+1,by go_num,by omega,?_,?_⟩
           ·have h9:=C8 (w:=wq.drew) Vk.out (by rw[ZY.out];omega) (wV (oH blk j))
            have e9:wV (oH blk j)=DW (DW (DW (w16+sg0 w15)+w7)+sg1 w2):=by
             unfold wV
             rw[ZY.out,N8.out.1,N8.out.2.1,N8.out.2.2.1,N8.out.2.2.2]
            rw[ZY.out,←JB blk (by omega),e9]at h9
            exact h9
           ·exact rZ (Vj G7.out) G7.out.size (Nat.le_refl _) _ _
          case measure=>simp[intOf];omega
        ·have hd:decide ((j:Int)<64)=false:=by simp;omega
         have Z0:j=64:=by omega
         rw[Z0,Py]at hw
         obtain⟨ws,hws⟩:∃ws,ws=dW blk 48:=⟨_,rfl⟩
         rw[←hws]at hw
         have hwsl:ws.length=64:=by rw[hws,nC]
         have HWSE:=Lib.hid hws
         have LJ:hb<wo.heap.size:=(Array.getElem?_eq_some_iff.1 HHX.out).1
         have hrh:wr.heap[hb]? =some (.cells (H.map dJ).toArray 193 (0,0)):=(hbx.block hb LJ).trans HHX.out
         have h1o:=xL.out.size
         have hk1:hb+1<w1.heap.size:=(Array.getElem?_eq_some_iff.1 sF.out).1
         have Bc:wr.heap[hb+1]? =some (.cells tC 194 (0,0)):=(hbx.block (hb+1) (by omega)).trans ((xL.out.block (hb+1) hk1 (fun e:hb+1=hb=>by omega)).trans sF.out)
         have hKr:Keeps (fun b=>b=hb) w1 wr:=xL.out.trans (Keeps.below hbx) fun x hx hx'=>absurd hx (by have:wo.heap.size≤x:=hx';omega)
         obtain⟨wb,hwb⟩:∃wb,wb=wo.heap.size:=⟨_,rfl⟩
         rw[←hwb]at hw LJ⊢
         have hwbr:wb<wr.heap.size:=(Array.getElem?_eq_some_iff.1 hw).1
         have h1b:w1.heap.size≤wb:=by omega
         have hS8:(Tryz.prog.info? 193).map (·.size)=some (H.map dJ).toArray.size:=by
          rw[show(H.map dJ).toArray.size=8 by simp[H8.out]]
          kernel_rfl
         have Yj:=Lib.hid hS8
         have HST8:Hid (∀(w:World) (b:Nat),b=w.heap.size→(Instr.storeAt 193 (.pointer (some ⟨b,0,none⟩)) (.agg (H.map dJ).toArray)).run Tryz.prog (w.alloc (.cells #[.int .u32 0, .int .u32 0, .int .u32 0, .int .u32 0, .int .u32 0, .int .u32 0, .int .u32 0, .int .u32 0] 193))= .ok () (w.alloc (.cells (H.map dJ).toArray 193))):=fun w b hb=>by
          subst hb
          exact run_storeAt_new w 193 _ _ hS8 (by simp[H8.out]) (Sy H)
         have HRH:=Lib.hid hrh
         have F4:=Lib.hid Bc
         have HW:=Lib.hid hw
         have QL:=Lib.hid hKr
         clear Z0 hw hrh Bc hKr hwb hbx hwl hj h64 hws hS8
         go_wp2_with (first|(refine wpList_load_row rfl 193 _ rfl hb rfl 193 (H.map dJ).toArray (0,0) _ HRH.out Tryz.underlying193 rfl Yj.out ?_)|(refine lG rfl 193 _ _ rfl (HST8.out _ _ (by simp)) ?_))
         have XM:=wall wr (.cells (H.map dJ).toArray 193)
         have hsA:=(MapKept.heap_alloc wr (.cells (H.map dJ).toArray 193)).1
         have OJ:(wr.alloc (.cells (H.map dJ).toArray 193)).heap.size=wr.heap.size+1:=by simp
         have hhr:hb+1<wr.heap.size:=(Array.getElem?_eq_some_iff.1 F4.out).1
         obtain⟨sb,hsb⟩:∃sb,sb=wr.heap.size:=⟨_,rfl⟩
         rw[←hsb]at hsA OJ⊢
         obtain⟨wA,hwA⟩:∃wA:World,wA=wr.alloc (.cells (H.map dJ).toArray 193):=⟨_,rfl⟩
         rw[←hwA]at XM hsA OJ⊢
         have hwW:wA.heap[wb]? =some (.cells (AL ws) 194 (0,0)):=(XM.block wb hwbr).trans HW.out
         have hwK:wA.heap[hb+1]? =some (.cells tC 194 (0,0)):=(XM.block (hb+1) hhr).trans F4.out
         have hwH:wA.heap[hb]? =some (.cells (H.map dJ).toArray 193 (0,0)):=(XM.block hb (by omega)).trans HRH.out
         have hKA:Keeps (fun b=>b=hb) w1 wA:=QL.out.trans (Keeps.below XM) fun x hx hx'=>absurd hx (by have:wr.heap.size≤x:=hx';have:=QL.out.size;omega)
         have hsbb:wb<sb∧hb+1<sb:=by omega
         have HWW:=Lib.hid hwW
         have HWKK:=Lib.hid hwK
         have HWH:=Lib.hid hwH
         have HKA:=Lib.hid hKA
         have Sz:=Lib.hid hsA
         have HZA:=Lib.hid OJ
         have UW:Hid ((H.map dJ).toArray=((rY.of H).list.map dJ).toArray):=by
          show(H.map dJ).toArray=_
          obtain⟨x0,x1,x2,x3,x4,x5,x6,x7,he⟩:=eight H8.out
          rw[he]
          rfl
         have HN0:=Lib.hid (rY.ZU pJ.out)
         have r6:Hid (∀(x:Int) (w:World),0≤x→Calls Tryz.prog 142 #[.int .u32 x, .int .u64 6] w fun e w'=>e= .returned (.int .u32 (jA x 26))∧w=w'):=fun x w h=>rt 6 rfl x w h (by omega) (by omega)
         have r11:Hid (∀(x:Int) (w:World),0≤x→Calls Tryz.prog 142 #[.int .u32 x, .int .u64 11] w fun e w'=>e= .returned (.int .u32 (jA x 21))∧w=w'):=fun x w h=>rt 11 rfl x w h (by omega) (by omega)
         have r25:Hid (∀(x:Int) (w:World),0≤x→Calls Tryz.prog 142 #[.int .u32 x, .int .u64 25] w fun e w'=>e= .returned (.int .u32 (jA x 7))∧w=w'):=fun x w h=>rt 25 rfl x w h (by omega) (by omega)
         have r2:Hid (∀(x:Int) (w:World),0≤x→Calls Tryz.prog 142 #[.int .u32 x, .int .u64 2] w fun e w'=>e= .returned (.int .u32 (jA x 30))∧w=w'):=fun x w h=>rt 2 rfl x w h (by omega) (by omega)
         have r13:Hid (∀(x:Int) (w:World),0≤x→Calls Tryz.prog 142 #[.int .u32 x, .int .u64 13] w fun e w'=>e= .returned (.int .u32 (jA x 19))∧w=w'):=fun x w h=>rt 13 rfl x w h (by omega) (by omega)
         have r22:Hid (∀(x:Int) (w:World),0≤x→Calls Tryz.prog 142 #[.int .u32 x, .int .u64 22] w fun e w'=>e= .returned (.int .u32 (jA x 10))∧w=w'):=fun x w h=>rt 22 rfl x w h (by omega) (by omega)
         clear hwW hwK hwH hKA hsA OJ XM hwA hsb
         go_loopw [14] (fun iv wx=>∃(i:Nat) (st:rY),iv= .int .i64 i∧i≤64∧st=kP (rY.of H) ws i∧wx.heap[sb]? =some (.cells (st.list.map dJ).toArray 193 (0,0))∧Keeps (fun b=>b=sb) wA wx) (fun iv _=>64-(intOf iv).toNat)
         case atStart=>exact⟨0,rY.of H,rfl,by omega,rfl,by rw[←UW.out];exact Sz.out,Keeps.refl _ _⟩
         case round=>
          obtain⟨i,⟨sa,sc,sd,se,sf,sg,sh,sj⟩,rfl,hi,hst,hsx,hKs⟩:=hrel
          have HST:=Lib.hid hst
          have XD:=Lib.hid hsx
          have HKS:=Lib.hid hKs
          by_cases N7:i<64
          ·skip
           have hd:decide ((i:Int)<64)=true:=by simp;omega
           obtain⟨ww,RD⟩:∃ww,ww=ws.getD i 0:=⟨_,rfl⟩
           obtain⟨kk,hkk⟩:∃kk,kk=kM.getD i 0:=⟨_,rfl⟩
           have hzz:=HZA.out
           have hbW:wr.heap[wb]? =some (.cells (AL ws) 194 (0,0)):=(hKs.block wb (by omega) (fun e:wb=sb=>by omega)).trans HWW.out
           have hbK:wr.heap[hb+1]? =some (.cells tC 194 (0,0)):=(hKs.block (hb+1) (by omega) (fun e:hb+1=sb=>by omega)).trans HWKK.out
           have MU:Hid (∀w':World,w'.heap[sb]? =wr.heap[sb]? →w'.cell? ⟨sb,0,none⟩=some (.int .u32 sa)∧w'.cell? ⟨sb,1,none⟩=some (.int .u32 sc)∧w'.cell? ⟨sb,2,none⟩=some (.int .u32 sd)∧w'.cell? ⟨sb,3,none⟩=some (.int .u32 se)∧w'.cell? ⟨sb,4,none⟩=some (.int .u32 sf)∧w'.cell? ⟨sb,5,none⟩=some (.int .u32 sg)∧w'.cell? ⟨sb,6,none⟩=some (.int .u32 sh)∧w'.cell? ⟨sb,7,none⟩=some (.int .u32 sj)):=fun w' h=>by
            rw[hsx]at h
            refine⟨?_,?_,?_,?_,?_,?_,?_,?_⟩<;>simp[World.cell?,h,rY.list]
           have HCW:Hid (∀w':World,w'.heap[wb]? =wr.heap[wb]? →w'.cell? ⟨wb,i,none⟩=some (.int .u32 ww)):=fun w' h=>by
            rw[RD]
            exact lK (h.trans hbW) (by rw[hwsl];exact N7)
           have HCK:Hid (∀w':World,w'.heap[hb+1]? =wr.heap[hb+1]? →w'.cell? ⟨hb+1,i,none⟩=some (.int .u32 kk)):=fun w' h=>by
            rw[hkk]
            exact LH (h.trans hbK) N7
           have hNN:=rY.Ce HN0.out ws i
           rw[←hst]at hNN
           have pf:0≤sf:=hNN.f
           have pa:0≤sa:=hNN.a
           have XC:=Lib.hid (And.intro RD hkk)
           have li:(i:Int)<64:=by omega
           have i0:(0:Int)≤(i:Int):=by omega
           have hti:((i:Int)).toNat=i:=by omega
           have hsw:sb<wr.heap.size:=(Array.getElem?_eq_some_iff.1 hsx).1
           obtain⟨c0,c1,c2,c3,c4,c5,c6,c7⟩:=MU.out wr rfl
           clear RD hkk hst hsx hKs hbW hbK hNN
           go_wp2_with fail
           go_quiet (fail)
           clear c0 c1 c2 c3 c4 c5 c6 c7
           have SA:Hid (∀b:Nat,(wr.drewN nq).heap[b]? =wr.heap[b]?):=fun b=>rfl
           have HKQ1:Hid (Keeps (fun _=>False) wr (wr.drewN nq)):=⟨rfl,rfl,rfl,Nat.le_refl _,fun _ _ _=>rfl⟩
           generalize wr.drewN nq=wq at*
           obtain⟨c0,c1,c2,c3,c4,c5,c6,c7⟩:=MU.out wq (SA.out _)
           have cw:=HCW.out wq (SA.out _)
           have ck:=HCK.out wq (SA.out _)
           go_wp2_with fail
           go_quiet ((go_at_call 142;first|(with_reducible exact Calls.quiet_of_same (jk (r6.out sf _ pf)))|(with_reducible exact Calls.quiet_of_same (jk (r11.out sf _ pf)))|(with_reducible exact Calls.quiet_of_same (jk (r25.out sf _ pf)))))
           clear c0 c1 c2 c3 c4 c5 c6 c7 cw ck
           have Z4:Hid (∀b:Nat,(wq.drewN nq).heap[b]? =wr.heap[b]?):=fun b=>SA.out b
           have HKQ2:Hid (Keeps (fun _=>False) wr (wq.drewN nq)):=HKQ1.out.trans (show Keeps (fun _=>False) wq (wq.drewN nq)from⟨rfl,rfl,rfl,Nat.le_refl _,fun _ _ _=>rfl⟩) fun x _ hx=>hx
           generalize wq.drewN nq=wq2 at*
           obtain⟨c0,c1,c2,c3,c4,c5,c6,c7⟩:=MU.out wq2 (Z4.out _)
           go_wp2_with fail
           go_quiet ((go_at_call 142;first|(with_reducible exact Calls.quiet_of_same (jk (r2.out sa _ pa)))|(with_reducible exact Calls.quiet_of_same (jk (r13.out sa _ pa)))|(with_reducible exact Calls.quiet_of_same (jk (r22.out sa _ pa)))))
           clear c0 c1 c2 c3 c4 c5 c6 c7
           have Z5:Hid (∀b:Nat,(wq2.drewN nq).heap[b]? =wr.heap[b]?):=fun b=>Z4.out b
           have HKQ3:Hid (Keeps (fun _=>False) wr (wq2.drewN nq)):=HKQ2.out.trans (show Keeps (fun _=>False) wq2 (wq2.drewN nq)from⟨rfl,rfl,rfl,Nat.le_refl _,fun _ _ _=>rfl⟩) fun x _ hx=>hx
           generalize wq2.drewN nq=wq3 at*
           obtain⟨c0,c1,c2,c3,c4,c5,c6,c7⟩:=MU.out wq3 (Z5.out _)
           have xG:=Lib.hid ((Z5.out sb).trans XD.out)
           go_wp2_with (refine jo rfl 193 _ _ rfl sb _ rfl rfl _ xG.out (by kernel_rfl) (by kernel_rfl) (by kernel_rfl) ?_;intro w9 hrs;have HRS:=Lib.hid hrs;clear hrs c0 c1 c2 c3 c4 c5 c6 c7)
           go_roundw
           case rel=>
            refine⟨i+1,tu ⟨sa,sc,sd,se,sf,sg,sh,sj⟩ kk ww,by go_num,by omega,?_,by rw[Ij];exact HRS.out.1,(HKS.out.trans HKQ3.out fun x _ hx=>False.elim hx).trans HRS.out.2.1 fun x _ hx=>hx⟩
            show _=tu (kP (rY.of H) ws i) (kM.getD i 0) (ws.getD i 0)
            rw[←HST.out,XC.out.1,XC.out.2]
           case measure=>simp[intOf];omega
          ·have hd:decide ((i:Int)<64)=false:=by simp;omega
           have EG:i=64:=by omega
           rw[EG]at hst
           obtain⟨L,hL⟩:∃L:List Int,L=(⟨sa,sc,sd,se,sf,sg,sh,sj⟩:rY).list:=⟨_,rfl⟩
           rw[←hL]at hsx
           have hL8:L.length=8:=by rw[hL];rfl
           have hLL:L=(kP (rY.of H) (dW blk 48) 64).list:=by rw[hL,hst,HWSE.out]
           have hzz:=HZA.out
           have hhx:wr.heap[hb]? =some (.cells (H.map dJ).toArray 193 (0,0)):=(hKs.block hb (by omega) (fun e:hb=sb=>by omega)).trans HWH.out
           have hKh:Keeps (fun b=>b=hb) w1 wr:=HKA.out.trans hKs fun x hx (e:x=sb)=>by omega
           have Yt:=Lib.hid hL8
           have za:=Lib.hid hLL
           have HSX2:=Lib.hid hsx
           have HHX2:=Lib.hid hhx
           have HKH:=Lib.hid hKh
           have HZZ:=Lib.hid hzz
           clear EG hst hL hL8 hLL hsx hhx hKh hKs hi N7 HST XD HKS hzz
           go_wp2_with fail
           go_loopw [19] (fun iv wx=>∃i:Nat,iv= .int .i64 i∧i≤8∧wx.heap[hb]? =some (.cells (((fF H blk).take i++H.drop i).map dJ++[]).toArray 193 (0,0))∧wx.heap[sb]? =some (.cells (L.map dJ).toArray 193 (0,0))∧Keeps (fun b=>b=hb) w1 wx) (fun iv _=>8-(intOf iv).toNat)
           case atStart=>exact⟨0,rfl,by omega,by simpa using HHX2.out,HSX2.out,HKH.out⟩
           case round=>
            obtain⟨i,rfl,hi,hhx,hsx,hkx⟩:=hrel
            have HHI:=Lib.hid hhx
            have HSI:=Lib.hid hsx
            have HKI:=Lib.hid hkx
            by_cases Dp:i<8
            ·have hd:decide ((i:Int)<8)=true:=by simp;omega
             have RF:=jP H blk H8.out
             obtain⟨x,hx⟩:∃x,x=L.getD i 0:=⟨_,rfl⟩
             obtain⟨y,hy⟩:∃y,y=H.getD i 0:=⟨_,rfl⟩
             have d1:wr.cell? ⟨sb,i,none⟩=some (.int .u32 x):=by
              rw[hx]
              have:=vT Yt.out Dp
              simp only[World.cell?,hsx]
              exact this
             have d2:wr.cell? ⟨hb,i,none⟩=some (.int .u32 y):=by
              rw[hy]
              have:=C9 (A:=fF H blk) (B:=H) (tail:=[]) RF H8.out Dp
              simp only[World.cell?,hhx]
              exact this
             have df:wr.frozen? ⟨hb,i,none⟩=false:=by simp[World.frozen?,hhx]
             have Yu:=Lib.hid (And.intro hx hy)
             have i8':(i:Int)<8:=by omega
             have i0:(0:Int)≤(i:Int):=by omega
             have hti:((i:Int)).toNat=i:=by omega
             clear hx hy hsx hhx hkx RF
             go_wp2_with fail
             refine qF 9 ((fun w'=>w'.cell? ⟨hb,i,none⟩=some (.int .u32 y)∧w'.cell? ⟨sb,i,none⟩=some (.int .u32 x)∧w'.frozen? ⟨hb,i,none⟩=false)) ?_ fun hS=> ?_
             ·exact⟨d2,d1,df⟩
             refine ak 0 hS ?_
             refine ak 1 hS ?_
             refine ak 2 hS ?_
             refine ak 3 hS ?_
             refine ak 4 hS ?_
             refine ak 5 hS ?_
             refine ak 6 hS ?_
             refine ak 7 hS ?_
             refine ak 8 hS ?_
             refine bK 9 fun K hK=> ?_
             go_simp
             refine j_ hK ?_
             clear hS hK K
             go_wp2_with fail
             go_roundw
             case rel=>
              have RF:=jP H blk H8.out
              have e9:DW (y+x)=(fF H blk).getD i 0:=by
               rw[zm H8.out Dp,←za.out,Yu.out.1,Yu.out.2]
              refine⟨i+1,by go_num,by omega,?_,?_,?_⟩
              ·rw[←Jk RF H8.out Dp,←e9]
               exact aG (w:=wr.drew) HHI.out
              ·refine(aK wr.drew ⟨hb,i,none⟩ _ sb ?_).trans HSI.out
               show sb≠hb
               omega
              ·exact((HKI.out.trans (show Keeps (fun x=>x=hb) wr wr.drew from⟨rfl,rfl,rfl,Nat.le_refl _,fun _ _ _=>rfl⟩) fun x _ hx=>hx).trans (Keeps.fq wr.drew ⟨hb,i,none⟩ _) fun x _ hx=>hx)
             case measure=>simp[intOf];omega
            ·have hd:decide ((i:Int)<8)=false:=by simp;omega
             have SB:i=8:=by omega
             have e1:(fF H blk).take 8=fF H blk:=List.take_of_length_le (by rw[jP H blk H8.out];omega)
             have e2:H.drop 8=[]:=List.drop_eq_nil_of_le (by rw[H8.out];omega)
             rw[SB,e1,e2,List.append_nil,List.append_nil]at hhx
             have e3:fF H blk=runM rz (k+1) X:=by rw[r_,←Bd.out,ZX.out,HP.out]
             rw[e3]at hhx
             have HF:=Lib.hid hhx
             have ewp:IntKind.i64.wrap ((p:Int)+64)=(p:Int)+64:=IntWalk.i64_in _ (by omega)
             clear e1 e2 e3 SB hhx hsx hkx hi Dp
             go_wp2_with fail
             go_roundw
             case rel=>exact⟨k+1,p+64,by go_num,by have:=HP.out;omega,by omega,HF.out,HKI.out⟩
             case measure=>simp[intOf];omega
      ·have hd:decide (p<M)=false:=by have:=Ub.out;simp;omega
       as_aux_lemma=>
       have hkN:k=NB:=by omega
       have hXl:X.length=M:=by simpa using rD.out.length
       have hRE:xM H=jR bs:=by
        rw[Pw,←HX.out,hXl,Ub.out,Nat.mul_div_cancel_left _ (by omega),←hkN,Bd.out]
       have BR:=Lib.hid hRE
       have hwr:w.heap.size≤wr.heap.size:=Nat.le_trans HB1.out.size xL.out.size
       have hbo:Below w.heap.size w wr:=HB1.out.trans (xL.out.fD HB1.out.size fun x hx (e:x=hb)=>by omega)
       have HBO:=Lib.hid hbo
       obtain⟨wo,rfl⟩:∃wo:World,wo=wr:=⟨_,rfl⟩
       have LJ:hb<wo.heap.size:=(Array.getElem?_eq_some_iff.1 HHX.out).1
       clear hp hkN hXl hRE hbo hk hlt hpM
       go_wp2_with fail
       go_loopw [20,21] (fun v iv wx=>∃(i:Nat) (a':Option Addr) (c':Nat),v= .slice a' (4*i) c'∧iv= .int .i64 i∧i≤8∧wx.ownsRow wo.heap.size 5 1 v (4*i) ((xM (H.take i)).map bv)∧Below wo.heap.size wo wx) (fun _ iv _=>8-(intOf iv).toNat)
       case atStart=>exact⟨0,none,0,rfl,rfl,by omega,⟨rfl, .inl ⟨rfl,rfl⟩⟩,Below.refl _ _⟩
       case round=>
        obtain⟨i,a2,c2,rfl,rfl,hi,hown,hbx⟩:=hrel
        have MP:=Lib.hid hown
        have vK:=Lib.hid hbx
        by_cases Dp:i<8
        ·have hd:decide ((i:Int)<8)=true:=by simp;omega
         obtain⟨z,hz⟩:∃z,z=H.getD i 0:=⟨_,rfl⟩
         have hcz:wr.cell? ⟨hb,i,none⟩=some (.int .u32 z):=by
          rw[hz]
          exact Wz H8.out ((hbx.block hb LJ).trans HHX.out) Dp
         have HCZ:Hid (∀w',Below wr.heap.size wr w'→w'.cell? ⟨hb,i,none⟩=some (.int .u32 z)):=fun w' h=>(h.cell (p:=⟨hb,i,none⟩) (Nat.lt_of_lt_of_le LJ hbx.size)).trans hcz
         have HZ:=Lib.hid hz
         have i8':(i:Int)<8:=by omega
         have i0:(0:Int)≤(i:Int):=by omega
         have hti:((i:Int)).toNat=i:=by omega
         clear hz hown hbx hcz
         go_wp2_with fail
         refine qF 22 ((fun w'=>w'.cell? ⟨hb,i,none⟩=some (.int .u32 z))) ?_ fun hS=> ?_
         ·exact HCZ.out _ (Below.refl _ _).drew
         refine ak 0 hS ?_
         refine ak 1 hS ?_
         refine ak 2 hS ?_
         refine ak 3 hS ?_
         refine ak 4 hS ?_
         refine ak 5 hS ?_
         refine ak 6 hS ?_
         refine ak 7 hS ?_
         refine ak 8 hS ?_
         refine ak 9 hS ?_
         refine ak 10 hS ?_
         refine ak 11 hS ?_
         refine ak 12 hS ?_
         refine ak 13 hS ?_
         refine ak 14 hS ?_
         refine ak 15 hS ?_
         refine ak 16 hS ?_
         refine ak 17 hS ?_
         refine ak 18 hS ?_
         refine ak 19 hS ?_
         refine bK 20 fun K hK=> ?_
         go_simp
         refine bR hK (HCZ.out _ ((Below.refl _ _).drew.alloc (Nat.le_refl _) _)) fun hS=> ?_
         clear hK K
         refine bK 21 fun K hK=> ?_
         refine au (by rfl) (.tmp 244) (.tmp 264) 23 (by rfl) wo.heap.size 5 i8 _ 1 1 Tryz.underlying23 HI.out.1 HI.out.2.1 HI.out.2.2.1 HI.out.2.2.2 rfl (by omega) _ (4*i) ((xM (H.take i)).map bv) (by rfl) (dh MP.out fun b hb hbw=>(wall wr.drew _).block b hbw) _ 4 _ [.int .u8 (z/16777216%256), .int .u8 (z/65536%256), .int .u8 (z/256%256), .int .u8 (z%256)] (by rfl) (gH (w:=wr.drew) [.int .u8 (z/16777216%256), .int .u8 (z/65536%256), .int .u8 (z/256%256), .int .u8 (z%256)] 5 (by simp[maxLen])) (by simp[Value.oneCell']) (by unfold maxLen;omega) (by omega) (by have:=vK.out.size;simp;omega) ?_
         intro A9 c9 w9 nD yg
         have AB:=Lib.hid ((vK.out.trans (((Below.refl wr.heap.size wr).drew.alloc (Nat.le_refl _) _).mono vK.out.size)).trans yg)
         have RG:=Lib.hid nD
         refine bR hK ((yg.cell (p:=⟨hb,i,none⟩) LJ).trans (HCZ.out _ ((Below.refl _ _).drew.alloc (Nat.le_refl _) _))) fun hS=> ?_
         clear hK K
         clear nD yg
         refine bK 22 fun K hK=> ?_
         go_simp
         refine j_ hK ?_
         clear hS hK K
         go_wp2_with fail
         go_roundw
         case rel=>
          have e9:4*(i+1)=4*i+4:=by omega
          refine⟨i+1,A9,c9,by rw[e9],by go_num,by omega,?_,AB.out⟩
          rw[e9,BP (by rw[H8.out];exact Dp),List.map_append,←HZ.out,←be4]
          exact RG.out
         case measure=>simp[intOf];omega
        ·have hd:decide ((i:Int)<8)=false:=by simp;omega
         have SB:i=8:=by omega
         have h9:=MP.out
         rw[SB,List.take_of_length_le (by rw[H8.out];exact Nat.le_refl 8),BR.out]at h9
         have H9:=Lib.hid h9
         have Lh:=Lib.hid SB
         clear h9 SB hown hi Dp
         go_wp2_with fail
         go_ret
         have h9:=H9.out
         have e4:4*8=(jR bs).length:=(rE bs).symm
         rw[Lh.out]
         rw[e4]at h9⊢
         exact⟨a2,c2,rfl,zq h9 hwr,HBO.out.trans (vK.out.mono hwr)⟩
    |succ k=>
     have hk0:(0:Int)≤k:=by omega
     have e3:8*((k+1:Nat):Int)-8=8*(k:Int):=by omega
     rw[e3]
     have e4:IntKind.u64.wrap (8*(k:Int))=8*(k:Int):=by simp[IntKind.wrap,IntKind.bits,IntKind.signed];omega
     have e5:IntKind.i64.wrap (8*(k:Int)-8)=8*(k:Int)-8:=IntWalk.i64_in _ (by omega)
     have hge:decide ((0:Int)≤8*(k:Int))=true:=by simp;omega
     have hge2:(0:Int)≤8*(k:Int):=by omega
     obtain⟨m3,Ep⟩:∃m3,m3=m+dn.length:=⟨_,rfl⟩
     rw[←Ep]at Hf⊢
     have tF:=Lib.hid Ep
     have hm3b:m3≤n+80:=by omega
     have hbw:=lq hN0 k
     obtain⟨b0,hb0⟩:∃b0,b0=UInt8.ofNat ((N/2^(8*k)).toNat%256):=⟨_,rfl⟩
     rw[←hb0]at hbw
     have HBV:Hid (Value.int .u8 (N/2^(8*k)%256)=bv b0):=by
      show Value.int .u8 (N/2^(8*k)%256)=bv b0
      have e9:(8*(k:Int)).toNat=8*k:=by omega
      rw[e9]at hbw
      simp only[IntKind.wrap,IntKind.bits,IntKind.signed]at hbw
      simp at hbw
      simp[bv]
      omega
     have HB0:=Lib.hid hb0
     clear hb0 hbw Ep
     go_wp2_with (at_builtin;refine dw rfl _ _ 23 rfl w.heap.size 5 i8 _ 1 1 Tryz.underlying23 HI.out.1 HI.out.2.1 HI.out.2.2.1 HI.out.2.2.2 rfl (by omega) (.slice a1 m3 c1) m3 ((P++dn).map bv) rfl (dh Hf.out fun b hb hbw=>(wall wr _).block b hbw) (some ⟨wr.heap.size,0,none⟩) 1 1 [.int .u8 (N/2^(8*k)%256)] rfl (gH (w:=wr) [.int .u8 (N/2^(8*k)%256)] 5 (by simp[maxLen])) (by simp[Value.oneCell']) (by unfold maxLen;omega) (by omega) (by have:=HB3.out.size;simp;omega) ?_;intro A4 c4 w4 kQ hb4;have Ox:=Lib.hid kQ;have kG:=Lib.hid ((HB3.out.trans ((wall wr _).mono HB3.out.size)).trans hb4);clear kQ hb4)
     go_roundw
     case rel=>
      have e9:m+(dn++[b0]).length=m3+1:=by have:=tF.out;simp;omega
      refine⟨k,dn++[b0],A4,c4,by omega,by go_num,?_,by simp;omega,by rw[e9],?_,kG.out⟩
      ·rw[List.append_assoc,←vJ.out,HB0.out]
       rfl
      ·rw[e9]
       have h8:=Ox.out
       rw[HBV.out]at h8
       simpa using h8
     case measure=>simp[intOf];omega
  ·have YA:¬m%64=56:=fun e=>hjz (hsp.1 e)
   have hd:((m:Int)%64 !=56)=true:=by simp;omega
   clear hsp
   go_wp2_with (at_builtin;refine dw rfl _ _ 23 rfl w.heap.size 5 i8 _ 1 1 Tryz.underlying23 HI.out.1 HI.out.2.1 HI.out.2.2.1 HI.out.2.2.2 rfl (by omega) (.slice a' m c') m ((bs++[128]++List.replicate j 0).map bv) rfl (dh HO.out fun b hb hbw=>(wall wr _).block b hbw) (some ⟨wr.heap.size,0,none⟩) 1 1 [bv 0] rfl (gH (w:=wr) [bv 0] 5 (by simp[maxLen])) (by simp[Value.oneCell',bv]) (by unfold maxLen;omega) (by omega) (by have:=HB.out.size;simp;omega) ?_;intro A4 c4 w4 kQ hb4;have Ox:=Lib.hid kQ;have kG:=Lib.hid ((HB.out.trans ((wall wr _).mono HB.out.size)).trans hb4);clear kQ hb4)
   go_roundw
   case rel=>
    have e9:n+1+(j+1)=m+1:=by have:=HM.out;omega
    refine⟨j+1,A4,c4,by rw[e9],by omega,?_,kG.out⟩
    rw[e9,List.replicate_succ']
    simpa using Ox.out
   case measure=>show n+200-(m+1)<n+200-m;have:=HM.out;omega
end Go.Proofs.YtjnhnlabpccgjaaGreat
