/- permafrostref2.Sum. -/
import Derived.Test.YtohpcppeajijnaaGreatM39
import Derived.Test.YtohpcppeajijnaaGreatM38
import Derived.Test.YtohpcppeajijnaaGreatM13
import Derived.Test.YtohpcppeajijnaaGreatM20
import Derived.Test.YtohpcppeajijnaaGreatM27
import Derived.Deep.WholeRow
import Derived.BigQuiet
import Derived.Deep.QuietTactic
namespace Go.Proofs.YtohpcppeajijnaaGreat
open Go.ChangeShapes Go.WideShapes Go.ChangeAt Go.RowKit
set_option linter.unusedVariables false
set_option linter.unusedSimpArgs false
def pV:Array Value:=(kM.map cO).toArray
set_option maxRecDepth 100000 in
theorem Dz (w:World):(Instr.build 156 #[(0, .int .u32 1116352408),(1, .int .u32 1899447441),(2, .int .u32 3049323471),(3, .int .u32 3921009573),(4, .int .u32 961987163),(5, .int .u32 1508970993),(6, .int .u32 2453635748),(7, .int .u32 2870763221),(8, .int .u32 3624381080),(9, .int .u32 310598401),(10, .int .u32 607225278),(11, .int .u32 1426881987),(12, .int .u32 1925078388),(13, .int .u32 2162078206),(14, .int .u32 2614888103),(15, .int .u32 3248222580),(16, .int .u32 3835390401),(17, .int .u32 4022224774),(18, .int .u32 264347078),(19, .int .u32 604807628),(20, .int .u32 770255983),(21, .int .u32 1249150122),(22, .int .u32 1555081692),(23, .int .u32 1996064986),(24, .int .u32 2554220882),(25, .int .u32 2821834349),(26, .int .u32 2952996808),(27, .int .u32 3210313671),(28, .int .u32 3336571891),(29, .int .u32 3584528711),(30, .int .u32 113926993),(31, .int .u32 338241895),(32, .int .u32 666307205),(33, .int .u32 773529912),(34, .int .u32 1294757372),(35, .int .u32 1396182291),(36, .int .u32 1695183700),(37, .int .u32 1986661051),(38, .int .u32 2177026350),(39, .int .u32 2456956037),(40, .int .u32 2730485921),(41, .int .u32 2820302411),(42, .int .u32 3259730800),(43, .int .u32 3345764771),(44, .int .u32 3516065817),(45, .int .u32 3600352804),(46, .int .u32 4094571909),(47, .int .u32 275423344),(48, .int .u32 430227734),(49, .int .u32 506948616),(50, .int .u32 659060556),(51, .int .u32 883997877),(52, .int .u32 958139571),(53, .int .u32 1322822218),(54, .int .u32 1537002063),(55, .int .u32 1747873779),(56, .int .u32 1955562222),(57, .int .u32 2024104815),(58, .int .u32 2227730452),(59, .int .u32 2361852424),(60, .int .u32 2428436474),(61, .int .u32 2756734187),(62, .int .u32 3204031479),(63, .int .u32 3329325298)]).run Tryz.prog w= .ok (.agg pV) w:=by kernel_rfl
set_option maxRecDepth 100000 in
theorem DC (w:World):(Instr.storeAt 156 (.pointer (some ⟨w.heap.size,0,none⟩)) (.agg pV)).run Tryz.prog (w.alloc (.cells #[.int .u32 0, .int .u32 0, .int .u32 0, .int .u32 0, .int .u32 0, .int .u32 0, .int .u32 0, .int .u32 0, .int .u32 0, .int .u32 0, .int .u32 0, .int .u32 0, .int .u32 0, .int .u32 0, .int .u32 0, .int .u32 0, .int .u32 0, .int .u32 0, .int .u32 0, .int .u32 0, .int .u32 0, .int .u32 0, .int .u32 0, .int .u32 0, .int .u32 0, .int .u32 0, .int .u32 0, .int .u32 0, .int .u32 0, .int .u32 0, .int .u32 0, .int .u32 0, .int .u32 0, .int .u32 0, .int .u32 0, .int .u32 0, .int .u32 0, .int .u32 0, .int .u32 0, .int .u32 0, .int .u32 0, .int .u32 0, .int .u32 0, .int .u32 0, .int .u32 0, .int .u32 0, .int .u32 0, .int .u32 0, .int .u32 0, .int .u32 0, .int .u32 0, .int .u32 0, .int .u32 0, .int .u32 0, .int .u32 0, .int .u32 0, .int .u32 0, .int .u32 0, .int .u32 0, .int .u32 0, .int .u32 0, .int .u32 0, .int .u32 0, .int .u32 0] 156))= .ok () (w.alloc (.cells pV 156)):=run_storeAt_new (P:=Tryz.prog) w 156 #[.int .u32 0, .int .u32 0, .int .u32 0, .int .u32 0, .int .u32 0, .int .u32 0, .int .u32 0, .int .u32 0, .int .u32 0, .int .u32 0, .int .u32 0, .int .u32 0, .int .u32 0, .int .u32 0, .int .u32 0, .int .u32 0, .int .u32 0, .int .u32 0, .int .u32 0, .int .u32 0, .int .u32 0, .int .u32 0, .int .u32 0, .int .u32 0, .int .u32 0, .int .u32 0, .int .u32 0, .int .u32 0, .int .u32 0, .int .u32 0, .int .u32 0, .int .u32 0, .int .u32 0, .int .u32 0, .int .u32 0, .int .u32 0, .int .u32 0, .int .u32 0, .int .u32 0, .int .u32 0, .int .u32 0, .int .u32 0, .int .u32 0, .int .u32 0, .int .u32 0, .int .u32 0, .int .u32 0, .int .u32 0, .int .u32 0, .int .u32 0, .int .u32 0, .int .u32 0, .int .u32 0, .int .u32 0, .int .u32 0, .int .u32 0, .int .u32 0, .int .u32 0, .int .u32 0, .int .u32 0, .int .u32 0, .int .u32 0, .int .u32 0, .int .u32 0] pV (by kernel_rfl) (by kernel_rfl) (by kernel_rfl)
theorem GX {w:World} {b i:Nat} (h:w.heap[b]? =some (.cells pV 156 (0,0))) (hi:i<64):w.cell? ⟨b,i,none⟩=some (cO (kM.getD i 0)):=by
 have hk:kM.length=64:=rfl
 simp only[World.cell?,h]
 show((kM.map cO).toArray)[i]? =_
 rw[List.getElem?_toArray,List.getElem?_map,List.getD_eq_getElem?_getD,List.getElem?_eq_getElem (by rw[hk];exact hi)]
 rfl
theorem Bt (w:World) (b:Nat) (hb:b=w.heap.size):(Instr.storeAt 156 (.pointer (some ⟨b,0,none⟩)) (.agg pV)).run Tryz.prog (w.alloc (.cells #[.int .u32 0, .int .u32 0, .int .u32 0, .int .u32 0, .int .u32 0, .int .u32 0, .int .u32 0, .int .u32 0, .int .u32 0, .int .u32 0, .int .u32 0, .int .u32 0, .int .u32 0, .int .u32 0, .int .u32 0, .int .u32 0, .int .u32 0, .int .u32 0, .int .u32 0, .int .u32 0, .int .u32 0, .int .u32 0, .int .u32 0, .int .u32 0, .int .u32 0, .int .u32 0, .int .u32 0, .int .u32 0, .int .u32 0, .int .u32 0, .int .u32 0, .int .u32 0, .int .u32 0, .int .u32 0, .int .u32 0, .int .u32 0, .int .u32 0, .int .u32 0, .int .u32 0, .int .u32 0, .int .u32 0, .int .u32 0, .int .u32 0, .int .u32 0, .int .u32 0, .int .u32 0, .int .u32 0, .int .u32 0, .int .u32 0, .int .u32 0, .int .u32 0, .int .u32 0, .int .u32 0, .int .u32 0, .int .u32 0, .int .u32 0, .int .u32 0, .int .u32 0, .int .u32 0, .int .u32 0, .int .u32 0, .int .u32 0, .int .u32 0, .int .u32 0] 156))= .ok () (w.alloc (.cells pV 156)):=by
 subst hb
 exact DC w
set_option maxRecDepth 100000 in
set_option maxHeartbeats 16000000 in
theorem Bu {S:Nat→Prop} (a:Option Addr) (n c:Nat) (bs:List UInt8) (w:World) (hr:ak S w a n (bs.map bv)) (hn:n≤100000000):Calls Tryz.prog 41 #[.slice a n c] w (dS w (iG bs)):=by
 obtain⟨i8,hi⟩:∃i,Tryz.prog.info? 5=some i∧i.zero=some (.int .u8 0)∧i.size=1∧i.bytes=1:=info_parts (by kernel_rfl)
 have HI:=Lib.hid hi
 have hln:bs.length=n:=by simpa using hr.length
 have XO:=Lib.hid hln
 have Np:=Lib.hid (show(w.alloc (.cells #[] 5)).ownsRow w.heap.size 5 1 (.slice (some ⟨w.heap.size,0,none⟩) 0 0) 0 []from World.ownsRow_lit w #[] 0 (Nat.le_refl _) (by decide) rfl)
 have QO:Hid (ak S (w.alloc (.cells #[] 5)) a n (bs.map bv)):=hr.below (wall w _) (Nat.le_refl _)
 have xC:=Lib.hid (wall w (.cells #[] 5))
 have JL:(w.alloc (.cells #[] 5)).heap.size=w.heap.size+1:=by simp
 have HBK:=Lib.hid Dz
 have HSK:=Lib.hid Bt
 clear hr hi hln
 go_enter Tryz.func41,Tryz.ntmps41
 go_wp2_with (at_builtin;go_loud (first|(refine aO rfl _ _ 39 rfl w.heap.size 5 i8 _ 1 Tryz.underlying39 HI.out.1 HI.out.2.1 HI.out.2.2.1 HI.out.2.2.2 rfl _ 0 [] rfl Np.out a n c (bs.map bv) rfl QO.out (bU bs) (by unfold maxLen;omega) (by omega) (by omega) ?_;intro A1 c1 u1 hown1 hg1 _ nZ;simp only[Nat.zero_add,List.nil_append]at hown1 nZ;have wV:=Lib.hid (dN hg1 (pO w) xC.out);have hs1:=wV.out.size;have OD:=Lib.hid (fC (w:=u1) [bv 128] 5 (by unfold maxLen;simp));have Ol:=Lib.hid (pQ hown1 (.cells #[bv 128] 5));have Nb:=Lib.hid (wall u1 (.cells #[bv 128] 5));have hzB:(u1.alloc (.cells #[.int .u8 128] 5)).heap.size=u1.heap.size+1:=(by simp);have Ur:=Lib.hid (wQ hown1 nZ);clear hown1 hg1 nZ;(try simp only[Nat.zero_add]))|(refine aO rfl _ _ 39 rfl w.heap.size 5 i8 _ 1 Tryz.underlying39 HI.out.1 HI.out.2.1 HI.out.2.2.1 HI.out.2.2.2 rfl _ n (bs.map bv) rfl Ol.out _ 1 1 [bv 128] rfl OD.out (bU [128]) (by unfold maxLen;omega) (by omega) (by omega) ?_;intro A2 c2 u2 hown2 hg2 _ zM;have HG2:=Lib.hid (dN hg2 Ur.out (wV.out.trans (Nb.out.mono wV.out.size)));have xq:=Lib.hid hown2;clear hown2 hg2 zM)))
 go_loopw [3] (fun v wr=>∃(j:Nat) (a':Option Addr) (c':Nat),v= .slice a' (n+1+j) c'∧j≤iX n∧wr.ownsRow w.heap.size 5 1 (.slice a' (n+1+j) c') (n+1+j) ((bs++[128]++List.replicate j 0).map bv)∧Below w.heap.size w wr) (fun v _=>n+200-(match v with| .slice _ m _=>m|_=>0))
 case atStart=>exact⟨0,A2,c2,rfl,Nat.zero_le _,by simpa using xq.out,HG2.out⟩
 case round=>
  obtain⟨j,a',c',rfl,hj,hown,hb⟩:=hrel
  have HO:=Lib.hid hown
  have HB:=Lib.hid hb
  have hz:=yx n
  have hsp:=tZ n j hj
  obtain⟨m,hm⟩:∃m,m=n+1+j:=⟨_,rfl⟩
  rw[←hm]at HO hsp⊢
  have HM:=Lib.hid hm
  have SF:m≤n+65:=by omega
  clear hown hb hm
  by_cases hjz:j=iX n
  ·have SG:m%64=56:=hsp.2 hjz
   have hd:((m:Int)%64 !=56)=false:=by simp;omega
   have e1:IntKind.u64.wrap (n:Int)=(n:Int):=by simp[IntKind.wrap,IntKind.bits,IntKind.signed];omega
   have e2:IntKind.u64.wrap ((n:Int)*8)=(n:Int)*8:=by simp[IntKind.wrap,IntKind.bits,IntKind.signed];omega
   obtain⟨P,hP⟩:∃P,P=bs++[128]++List.replicate j 0:=⟨_,rfl⟩
   rw[←hP]at HO
   have Vm:Hid (P=bs++[128]++List.replicate (iX bs.length) 0):=by
    show P=_
    rw[hP,hjz,XO.out]
   have LW:Hid ((m+8)%64=0):=by show(m+8)%64=0;omega
   clear hsp SG hjz hP
   go_wp2_with fail
   obtain⟨N,hN⟩:∃N:Int,N=(n:Int)*8:=⟨_,rfl⟩
   rw[←hN]
   have hN0:0≤N:=by omega
   have HN:=Lib.hid hN
   clear hN e2
   obtain⟨wq,rfl⟩:∃wq:World,wq=wr:=⟨_,rfl⟩
   go_loopw [3,5] (fun v kv wr=>∃(k:Nat) (dn:List UInt8) (a1:Option Addr) (c1:Nat),k≤8∧kv= .int .i64 (8*(k:Int)-8)∧dn++dU N k=dU N 8∧dn.length+k=8∧v= .slice a1 (m+dn.length) c1∧wr.ownsRow w.heap.size 5 1 (.slice a1 (m+dn.length) c1) (m+dn.length) ((P++dn).map bv)∧Below w.heap.size w wr) (fun _ kv _=>((intOf kv)+8).toNat)
   case atStart=>exact⟨8,[],a',c',by omega,rfl,rfl,rfl,rfl,by simpa using HO.out,HB.out⟩
   case round=>
    obtain⟨k,dn,a1,c1,hk,rfl,hdn,hdl,rfl,hown,hB⟩:=hrel
    have xZ:=Lib.hid hdn
    have AQ:=Lib.hid hown
    have HB3:=Lib.hid hB
    have VH:=hB.size
    clear hdn hown hB
    cases k with
    |zero=>
     have e0:8*((0:Nat):Int)-8= -8:=by omega
     rw[e0]
     have JB:dn=dU N 8:=by
      have h9:dn++[]=dU N 8:=xZ.out
      rwa [List.append_nil]at h9
     have Yr:Hid (P++dn=kN bs bs.length):=by
      show P++dn=kN bs bs.length
      unfold kN
      rw[Vm.out,JB,HN.out,XO.out]
     have QX:dn.length=8:=by omega
     rw[QX,Yr.out]at AQ
     rw[QX]
     obtain⟨X,hX⟩:∃X,X=kN bs bs.length:=⟨_,rfl⟩
     rw[←hX]at AQ
     have HX:=Lib.hid hX
     obtain⟨NB,hNB⟩:∃NB,NB=(m+8)/64:=⟨_,rfl⟩
     obtain⟨M,hMe⟩:∃M,M=m+8:=⟨_,rfl⟩
     have Oq:Hid (M=64*NB):=by show M=64*NB;have:=LW.out;omega
     have hMle:M≤100000100:=by omega
     rw[←hMe]at AQ⊢
     clear JB hdl QX hX hNB hMe e0
     go_upto_region 10 with(fail)
     go_wp2_with (first|(refine ng (v:= .agg pV) rfl 156 _ rfl (by kernel_rfl) ?_)|(refine jJ rfl 156 _ _ rfl (HSK.out _ _ (by simp)) ?_))
     have hbs1:=HB3.out.size
     have QY:=HB3.out.size
     have hT8:=(MapKept.heap_alloc wr (.cells (oJ.map cO).toArray 155)).1
     have Ux:=(MapKept.heap_alloc (wr.alloc (.cells (oJ.map cO).toArray 155)) (.cells pV 156)).1
     have Yt:=wall (wr.alloc (.cells (oJ.map cO).toArray 155)) (.cells pV 156)
     have Te:(wr.alloc (.cells (oJ.map cO).toArray 155)).heap.size=wr.heap.size+1:=by simp
     have hBw:Below wr.heap.size wr ((wr.alloc (.cells (oJ.map cO).toArray 155)).alloc (.cells pV 156)):=(wall wr _).trans (Yt.mono (by rw[Te];omega))
     obtain⟨w1,hw1⟩:∃w1:World,w1=(wr.alloc (.cells #[.int .u32 1779033703, .int .u32 3144134277, .int .u32 1013904242, .int .u32 2773480762, .int .u32 1359893119, .int .u32 2600822924, .int .u32 528734635, .int .u32 1541459225] 155)).alloc (.cells pV 156):=⟨_,rfl⟩
     obtain⟨hb,RL⟩:∃hb,hb=wr.heap.size:=⟨_,rfl⟩
     have hH1:w1.heap[hb]? =some (.cells (oJ.map cO).toArray 155 (0,0)):=by rw[hw1,RL];exact(Yt.block _ (by rw[Te];omega)).trans hT8
     have hK1:w1.heap[hb+1]? =some (.cells pV 156 (0,0)):=by rw[hw1,RL,←Te];exact Ux
     have hB1:Below w.heap.size w w1:=by rw[hw1];exact HB3.out.trans (hBw.mono QY)
     have hO1:ak (fun b=>b<hb) w1 a1 M (X.map bv):=by
      obtain⟨-,-,hr1⟩:=ak.jO AQ.out (by unfold maxLen;omega)
      rw[Nat.mul_one]at hr1
      rw[hw1,RL]
      exact(hr1.below hBw (Nat.le_refl _)).mono fun b hb=>hb.2
     have hhw:w.heap.size≤hb:=by rw[RL];exact QY
     rw[←hw1,←RL]
     have HH1:=Lib.hid hH1
     have lM:=Lib.hid hK1
     have HB1:=Lib.hid hB1
     have mg:=Lib.hid hO1
     clear hT8 Ux Yt Te hBw hw1 RL hH1 hK1 hB1 hO1 QY
     go_loopw [8] (fun v wx=>∃(k p:Nat),v= .int .i64 p∧p=64*k∧k≤NB∧wx.heap[hb]? =some (.cells ((runM oJ k X).map cO).toArray 155 (0,0))∧Keeps (fun b=>b=hb) w1 wx) (fun v _=>M-(intOf v).toNat)
     case atStart=>exact⟨0,0,rfl,rfl,Nat.zero_le _,HH1.out,Keeps.refl _ _⟩
     case round=>
      obtain⟨k,p,rfl,hp,hk,hh,hKx⟩:=hrel
      have h8:=jX k oJ X rfl
      have hnn:=EJ k oJ X QU
      obtain⟨H,hH⟩:∃H,H=runM oJ k X:=⟨_,rfl⟩
      rw[←hH]at hh h8 hnn
      have BQ:=Lib.hid hH
      have VJ:=Lib.hid hh
      have Jh:=Lib.hid hKx
      have H8:=Lib.hid h8
      have xV:=Lib.hid hnn
      have HP:=Lib.hid hp
      have hpM:p≤64*NB:=by omega
      clear hh hKx h8 hnn hH
      by_cases hlt:k<NB
      ·have hd:decide (p<M)=true:=by have:=Oq.out;simp;omega
       have hpk:p+64≤M:=by have:=Oq.out;omega
       have ht:(p:Int)<(M:Int):=by omega
       obtain⟨wo,rfl⟩:∃wo:World,wo=wr:=⟨_,rfl⟩
       clear hp
       go_wp2_with fail
       obtain⟨blk,hblk⟩:∃blk,blk=(X.drop p).take 64:=⟨_,rfl⟩
       have Uy:=Lib.hid hblk
       clear hblk
       go_loopw [10,11,12] (fun iv _ _ wx=>∃j:Nat,iv= .int .i64 j∧j≤64∧wx.heap[wo.heap.size]? =some (.cells (wW (mU blk j)) 156 (0,0))∧Below wo.heap.size wo wx) (fun iv _ _ _=>64-(intOf iv).toNat)
       case atStart=>exact⟨0,rfl,by omega,(MapKept.heap_alloc wo _).1,wall wo _⟩
       case round=>
        obtain⟨j,rfl,hj,hw,hbx⟩:=hrel
        have hwl:=Lc blk j
        by_cases h64:j<64
        ·have hd:decide ((j:Int)<64)=true:=by simp;omega
         have hz:=zl hw (Nat.le_of_eq hwl) h64
         have hfz:wr.frozen? ⟨wo.heap.size,j,none⟩=false:=by simp[World.frozen?,hw]
         have HW:=Lib.hid hw
         have QZ:=Lib.hid hbx
         have Uz:=Lib.hid hwl
         have j64:(j:Int)<64:=by omega
         have j0:(0:Int)≤(j:Int):=by omega
         have htj:((j:Int)).toNat=j:=by omega
         by_cases h16:j<16
         ·as_aux_lemma=>
          have Yu:decide ((j:Int)<16)=true:=by simp;omega
          have hrow:ak (fun b=>b<hb) wr a1 M (X.map bv):=mg.out.move (Nat.le_trans Jh.out.size hbx.size) fun b hb' hbw=>⟨hb',(hbx.block b (Nat.lt_of_lt_of_le hbw Jh.out.size)).trans (Jh.out.block b hbw (fun e:b=hb=>by omega))⟩
          obtain⟨rb,ro,rfl,hrs,hrb,hrc⟩:=hrow.at_ (by omega)
          obtain⟨q,hq⟩:∃q,q=p+4*j:=⟨_,rfl⟩
          obtain⟨q1,hq1⟩:∃q1,q1=q+1:=⟨_,rfl⟩
          obtain⟨q2,hq2⟩:∃q2,q2=q+2:=⟨_,rfl⟩
          obtain⟨q3,hq3⟩:∃q3,q3=q+3:=⟨_,rfl⟩
          have l0:q<M:=by omega
          have l1:q1<M:=by omega
          have l2:q2<M:=by omega
          have l3:q3<M:=by omega
          have c0:=rQ hrow l0
          have c1:=rQ hrow l1
          have c2:=rQ hrow l2
          have c3:=rQ hrow l3
          have ew:IntKind.i64.wrap (4*(j:Int))=4*(j:Int):=IntWalk.i64_in _ (by omega)
          have eq0:IntKind.i64.wrap ((p:Int)+4*(j:Int))=(q:Int):=by rw[IntWalk.i64_in _ (by omega)];omega
          have eq1:IntKind.i64.wrap ((q:Int)+1)=(q1:Int):=by rw[IntWalk.i64_in _ (by omega)];omega
          have eq2:IntKind.i64.wrap ((q:Int)+2)=(q2:Int):=by rw[IntWalk.i64_in _ (by omega)];omega
          have eq3:IntKind.i64.wrap ((q:Int)+3)=(q3:Int):=by rw[IntWalk.i64_in _ (by omega)];omega
          have i0:(q:Int)<(M:Int):=by omega
          have i1:(q1:Int)<(M:Int):=by omega
          have i2:(q2:Int)<(M:Int):=by omega
          have i3:(q3:Int)<(M:Int):=by omega
          have Xb:Hid (oK blk j=tX (X.getD q 0) (X.getD q1 0) (X.getD q2 0) (X.getD q3 0)):=by
           show oK blk j=_
           rw[Uy.out,Nw X p j h16,hq1,hq2,hq3,hq]
          generalize X.getD q 0=b0 at*
          generalize X.getD q1 0=b1 at*
          generalize X.getD q2 0=b2 at*
          generalize X.getD q3 0=b3 at*
          clear hq hq1 hq2 hq3 hrow hrs hrb hrc hw hbx hwl
          go_wp2_with fail
          refine wp_region_noPanic ?_
          refine aH (last:=43) (S:=(fun w'=>(w'.cell? ⟨rb,ro+q,none⟩=some (.int .u8 (b0.toNat:Int))∧w'.cell? ⟨rb,ro+q1,none⟩=some (.int .u8 (b1.toNat:Int))∧w'.cell? ⟨rb,ro+q2,none⟩=some (.int .u8 (b2.toNat:Int))∧w'.cell? ⟨rb,ro+q3,none⟩=some (.int .u8 (b3.toNat:Int)))∧w'.cell? ⟨wo.heap.size,j,none⟩=some (.int .u32 0)∧w'.frozen? ⟨wo.heap.size,j,none⟩=false)) (by kernel_rfl) ?_ (fun hS=> ?_)
          ·exact⟨⟨c0,c1,c2,c3⟩,hz,hfz⟩
          refine aC 0 (hS:=hS) (h:= ?_)
          refine aC 1 (hS:=hS) (h:= ?_)
          refine aC 2 (hS:=hS) (h:= ?_)
          refine aC 3 (hS:=hS) (h:= ?_)
          refine aC 4 (hS:=hS) (h:= ?_)
          refine aC 5 (hS:=hS) (h:= ?_)
          refine aC 6 (hS:=hS) (h:= ?_)
          refine aC 7 (hS:=hS) (h:= ?_)
          refine aC 8 (hS:=hS) (h:= ?_)
          refine aC 9 (hS:=hS) (h:= ?_)
          refine aC 10 (hS:=hS) (h:= ?_)
          refine aC 11 (hS:=hS) (h:= ?_)
          refine aC 12 (hS:=hS) (h:= ?_)
          refine aC 13 (hS:=hS) (h:= ?_)
          refine aC 14 (hS:=hS) (h:= ?_)
          refine aC 15 (hS:=hS) (h:= ?_)
          refine aC 16 (hS:=hS) (h:= ?_)
          refine aC 17 (hS:=hS) (h:= ?_)
          refine aC 18 (hS:=hS) (h:= ?_)
          refine aC 19 (hS:=hS) (h:= ?_)
          refine aC 20 (hS:=hS) (h:= ?_)
          refine aC 21 (hS:=hS) (h:= ?_)
          refine aC 22 (hS:=hS) (h:= ?_)
          refine aC 23 (hS:=hS) (h:= ?_)
          refine aC 24 (hS:=hS) (h:= ?_)
          refine aC 25 (hS:=hS) (h:= ?_)
          refine aC 26 (hS:=hS) (h:= ?_)
          refine aC 27 (hS:=hS) (h:= ?_)
          refine aC 28 (hS:=hS) (h:= ?_)
          refine aC 29 (hS:=hS) (h:= ?_)
          refine aC 30 (hS:=hS) (h:= ?_)
          refine aC 31 (hS:=hS) (h:= ?_)
          refine aC 32 (hS:=hS) (h:= ?_)
          refine aC 33 (hS:=hS) (h:= ?_)
          refine aC 34 (hS:=hS) (h:= ?_)
          refine aC 35 (hS:=hS) (h:= ?_)
          refine aC 36 (hS:=hS) (h:= ?_)
          refine aC 37 (hS:=hS) (h:= ?_)
          refine aC 38 (hS:=hS) (h:= ?_)
          refine aC 39 (hS:=hS) (h:= ?_)
          refine aC 40 (hS:=hS) (h:= ?_)
          refine aC 41 (hS:=hS) (h:= ?_)
          refine aC 42 (hS:=hS) (h:= ?_)
          refine dh 43 (h:=fun K hK=> ?_)
          go_simp
          refine hK.out _ _ (fun h=>absurd rfl h) (fun hS=> ?_)
          clear hS hK K
          try simp only[Act.put,List.setIfInBounds_toArray,List.set_cons_zero,List.set_cons_succ]
          refine aG (by kernel_rfl) ?_ _
          refine NoPanic.normal ?_
          go_wp2_with fail
          go_roundw
          case rel=>
           refine⟨j+1,by go_num,by omega,?_,?_⟩
           ·have h9:=zm (w:=wr.drew) HW.out (by rw[Uz.out];omega) (oK blk j)
            rw[Uz.out,←EH blk h16,Xb.out,←Lf]at h9
            exact h9
           ·exact pG (Pn QZ.out) QZ.out.size (Nat.le_refl _) _ _
          case measure=>simp[intOf];omega
         ·as_aux_lemma=>
          have Yu:decide ((j:Int)<16)=false:=by simp;omega
          have s15:=jR hw (show j-15<_ by rw[hwl];omega)
          have s2:=jR hw (show j-2<_ by rw[hwl];omega)
          have s16:=jR hw (show j-16<_ by rw[hwl];omega)
          have s7:=jR hw (show j-7<_ by rw[hwl];omega)
          have e15:IntKind.i64.wrap ((j:Int)-15)=(j:Int)-15:=IntWalk.i64_in _ (by omega)
          have e2:IntKind.i64.wrap ((j:Int)-2)=(j:Int)-2:=IntWalk.i64_in _ (by omega)
          have e16:IntKind.i64.wrap ((j:Int)-16)=(j:Int)-16:=IntWalk.i64_in _ (by omega)
          have e7:IntKind.i64.wrap ((j:Int)-7)=(j:Int)-7:=IntWalk.i64_in _ (by omega)
          have n15:((j:Int)-15).toNat=j-15:=by omega
          have n2:((j:Int)-2).toNat=j-2:=by omega
          have n16:((j:Int)-16).toNat=j-16:=by omega
          have n7:((j:Int)-7).toNat=j-7:=by omega
          have g15:(0:Int)≤(j:Int)-15:=by omega
          have g2':(0:Int)≤(j:Int)-2:=by omega
          have g16:(0:Int)≤(j:Int)-16:=by omega
          have g7:(0:Int)≤(j:Int)-7:=by omega
          have l15:(j:Int)-15<64:=by omega
          have l2:(j:Int)-2<64:=by omega
          have l16:(j:Int)-16<64:=by omega
          have l7:(j:Int)-7<64:=by omega
          have q16:(16:Int)≤(j:Int):=by omega
          have q7:(7:Int)≤(j:Int):=by omega
          have hn:=zO blk j
          have Yv:=jU hn (j-15)
          have p2:=jU hn (j-2)
          clear hn
          obtain⟨Xd,CO⟩:∃z,z=(mU blk j).getD (j-15) 0:=⟨_,rfl⟩
          obtain⟨w2,hw2⟩:∃z,z=(mU blk j).getD (j-2) 0:=⟨_,rfl⟩
          obtain⟨w16,hw16⟩:∃z,z=(mU blk j).getD (j-16) 0:=⟨_,rfl⟩
          obtain⟨w7,hw7⟩:∃z,z=(mU blk j).getD (j-7) 0:=⟨_,rfl⟩
          rw[←CO]at s15 Yv
          rw[←hw2]at s2 p2
          rw[←hw16]at s16
          rw[←hw7]at s7
          have Jd:=Lib.hid (And.intro CO (And.intro hw2 (And.intro hw16 hw7)))
          have r7:Hid (∀(x:Int) (w:World),0≤x→Calls Tryz.prog 106 #[.int .u32 x, .int .u64 7] w fun e w'=>e= .returned (.int .u32 (iF x 25))∧w=w'):=fun x w h=>rt 7 rfl x w h (by omega) (by omega)
          have WW:Hid (∀(x:Int) (w:World),0≤x→Calls Tryz.prog 106 #[.int .u32 x, .int .u64 18] w fun e w'=>e= .returned (.int .u32 (iF x 14))∧w=w'):=fun x w h=>rt 18 rfl x w h (by omega) (by omega)
          have WX:Hid (∀(x:Int) (w:World),0≤x→Calls Tryz.prog 106 #[.int .u32 x, .int .u64 17] w fun e w'=>e= .returned (.int .u32 (iF x 15))∧w=w'):=fun x w h=>rt 17 rfl x w h (by omega) (by omega)
          have WY:Hid (∀(x:Int) (w:World),0≤x→Calls Tryz.prog 106 #[.int .u32 x, .int .u64 19] w fun e w'=>e= .returned (.int .u32 (iF x 13))∧w=w'):=fun x w h=>rt 19 rfl x w h (by omega) (by omega)
          clear CO hw2 hw16 hw7 hw hbx hwl
          go_wp2_with fail
          go_quiet (fail)
          have t16:(wr.drewN nq).cell? ⟨wo.heap.size,j-16,none⟩=some (.int .u32 w16):=s16
          have t7:(wr.drewN nq).cell? ⟨wo.heap.size,j-7,none⟩=some (.int .u32 w7):=s7
          have tz:(wr.drewN nq).cell? ⟨wo.heap.size,j,none⟩=some (.int .u32 0):=hz
          have tf:(wr.drewN nq).frozen? ⟨wo.heap.size,j,none⟩=false:=hfz
          have Je:(wr.drewN nq).heap[wo.heap.size]? =some (.cells (wW (mU blk j)) 156 (0,0)):=HW.out
          have Jf:Below wo.heap.size wo (wr.drewN nq):=⟨QZ.out.os,QZ.out.tape,QZ.out.output,QZ.out.size,QZ.out.block⟩
          generalize wr.drewN nq=wq at*
          have Po:=Lib.hid Je
          have CP:=Lib.hid Jf
          clear Je Jf s15 s2 s16 s7 hz hfz
          go_wp2_with fail
          refine wp_region_noPanic ?_
          refine aH (last:=29) (S:=(fun w'=>w'.cell? ⟨wo.heap.size,j-16,none⟩=some (.int .u32 w16)∧w'.cell? ⟨wo.heap.size,j-7,none⟩=some (.int .u32 w7)∧w'.cell? ⟨wo.heap.size,j,none⟩=some (.int .u32 0)∧w'.frozen? ⟨wo.heap.size,j,none⟩=false)) (by kernel_rfl) ?_ (fun hS=> ?_)
          ·exact⟨t16,t7,tz,tf⟩
          refine aC 0 (hS:=hS) (h:= ?_)
          refine aC 1 (hS:=hS) (h:= ?_)
          refine aC 2 (hS:=hS) (h:= ?_)
          refine aC 3 (hS:=hS) (h:= ?_)
          refine aC 4 (hS:=hS) (h:= ?_)
          refine aC 5 (hS:=hS) (h:= ?_)
          refine aC 7 (hS:=hS) (h:= ?_)
          refine aC 10 (hS:=hS) (h:= ?_)
          refine aC 11 (hS:=hS) (h:= ?_)
          refine aC 14 (hS:=hS) (h:= ?_)
          refine aC 15 (hS:=hS) (h:= ?_)
          refine aC 16 (hS:=hS) (h:= ?_)
          refine aC 17 (hS:=hS) (h:= ?_)
          refine aC 19 (hS:=hS) (h:= ?_)
          refine aC 21 (hS:=hS) (h:= ?_)
          refine aC 24 (hS:=hS) (h:= ?_)
          refine aC 25 (hS:=hS) (h:= ?_)
          refine dh 6 (h:=fun K hK=> ?_)
          go_simp
          (with_reducible refine(r7.out _ _ Yv).mono ?_)
          rintro e w5 ⟨rfl,rfl⟩
          go_wp2_with fail
          refine hK.out _ _ (fun _=>hS) (fun hS=> ?_)
          replace hS:=hS (by decide)
          clear hK K
          try simp only[Act.put,List.setIfInBounds_toArray,List.set_cons_zero,List.set_cons_succ]
          refine dh 8 (h:=fun K hK=> ?_)
          go_simp
          (with_reducible refine(WW.out _ _ Yv).mono ?_)
          rintro e w5 ⟨rfl,rfl⟩
          go_wp2_with fail
          refine hK.out _ _ (fun _=>hS) (fun hS=> ?_)
          replace hS:=hS (by decide)
          clear hK K
          try simp only[Act.put,List.setIfInBounds_toArray,List.set_cons_zero,List.set_cons_succ]
          refine aC 9 (hS:=hS) (h:= ?_)
          refine aC 12 (hS:=hS) (h:= ?_)
          refine aC 13 (hS:=hS) (h:= ?_)
          refine aC 18 (hS:=hS) (h:= ?_)
          refine dh 20 (h:=fun K hK=> ?_)
          go_simp
          (with_reducible refine(WX.out _ _ p2).mono ?_)
          rintro e w5 ⟨rfl,rfl⟩
          go_wp2_with fail
          refine hK.out _ _ (fun _=>hS) (fun hS=> ?_)
          replace hS:=hS (by decide)
          clear hK K
          try simp only[Act.put,List.setIfInBounds_toArray,List.set_cons_zero,List.set_cons_succ]
          refine dh 22 (h:=fun K hK=> ?_)
          go_simp
          (with_reducible refine(WY.out _ _ p2).mono ?_)
          rintro e w5 ⟨rfl,rfl⟩
          go_wp2_with fail
          refine hK.out _ _ (fun _=>hS) (fun hS=> ?_)
          replace hS:=hS (by decide)
          clear hK K
          try simp only[Act.put,List.setIfInBounds_toArray,List.set_cons_zero,List.set_cons_succ]
          refine aC 23 (hS:=hS) (h:= ?_)
          refine aC 26 (hS:=hS) (h:= ?_)
          refine aC 27 (hS:=hS) (h:= ?_)
          refine aC 28 (hS:=hS) (h:= ?_)
          refine dh 29 (h:=fun K hK=> ?_)
          go_simp
          refine hK.out _ _ (fun h=>absurd rfl h) (fun hS=> ?_)
          clear hS hK K
          try simp only[Act.put,List.setIfInBounds_toArray,List.set_cons_zero,List.set_cons_succ]
          refine aG (by kernel_rfl) ?_ _
          refine NoPanic.normal ?_
          go_wp2_with fail
          go_roundw
          case rel=>
           refine⟨j+1,by go_num,by omega,?_,?_⟩
           ·have h9:=zm (w:=wq.drew) Po.out (by rw[Uz.out];omega) (tY (mU blk j))
            have e9:tY (mU blk j)=zW (zW (zW (w16+WU Xd)+w7)+sg1 w2):=by
             unfold tY
             rw[Uz.out,Jd.out.1,Jd.out.2.1,Jd.out.2.2.1,Jd.out.2.2.2]
            rw[Uz.out,←EI blk (by omega),e9]at h9
            exact h9
           ·exact pG (Pn CP.out) CP.out.size (Nat.le_refl _) _ _
          case measure=>simp[intOf];omega
        ·have hd:decide ((j:Int)<64)=false:=by simp;omega
         have UA:j=64:=by omega
         rw[UA,Ld]at hw
         obtain⟨ws,hws⟩:∃ws,ws=dI blk 48:=⟨_,rfl⟩
         rw[←hws]at hw
         have Yw:ws.length=64:=by rw[hws,lD]
         have Yx:=Lib.hid hws
         have GY:hb<wo.heap.size:=(Array.getElem?_eq_some_iff.1 VJ.out).1
         have hrh:wr.heap[hb]? =some (.cells (H.map cO).toArray 155 (0,0)):=(hbx.block hb GY).trans VJ.out
         have h1o:=Jh.out.size
         have hk1:hb+1<w1.heap.size:=(Array.getElem?_eq_some_iff.1 lM.out).1
         have xA:wr.heap[hb+1]? =some (.cells pV 156 (0,0)):=(hbx.block (hb+1) (by omega)).trans ((Jh.out.block (hb+1) hk1 (fun e:hb+1=hb=>by omega)).trans lM.out)
         have hKr:Keeps (fun b=>b=hb) w1 wr:=Jh.out.trans (Keeps.below hbx) fun x hx hx'=>absurd hx (by have:wo.heap.size≤x:=hx';omega)
         obtain⟨wb,hwb⟩:∃wb,wb=wo.heap.size:=⟨_,rfl⟩
         rw[←hwb]at hw GY⊢
         have Yy:wb<wr.heap.size:=(Array.getElem?_eq_some_iff.1 hw).1
         have h1b:w1.heap.size≤wb:=by omega
         have Vv:(Tryz.prog.info? 155).map (·.size)=some (H.map cO).toArray.size:=by
          rw[show(H.map cO).toArray.size=8 by simp[H8.out]]
          kernel_rfl
         have WC:=Lib.hid Vv
         have Yz:Hid (∀(w:World) (b:Nat),b=w.heap.size→(Instr.storeAt 155 (.pointer (some ⟨b,0,none⟩)) (.agg (H.map cO).toArray)).run Tryz.prog (w.alloc (.cells #[.int .u32 0, .int .u32 0, .int .u32 0, .int .u32 0, .int .u32 0, .int .u32 0, .int .u32 0, .int .u32 0] 155))= .ok () (w.alloc (.cells (H.map cO).toArray 155))):=fun w b hb=>by
          subst hb
          exact run_storeAt_new w 155 _ _ Vv (by simp[H8.out]) (Ny H)
         have HRH:=Lib.hid hrh
         have BP:=Lib.hid xA
         have HW:=Lib.hid hw
         have RN:=Lib.hid hKr
         clear UA hw hrh xA hKr hwb hbx hwl hj h64 hws Vv
         go_wp2_with (first|(refine wpList_load_row rfl 155 _ rfl hb rfl 155 (H.map cO).toArray (0,0) _ HRH.out Tryz.underlying155 rfl WC.out ?_)|(refine jJ rfl 155 _ _ rfl (Yz.out _ _ (by simp)) ?_))
         have RP:=wall wr (.cells (H.map cO).toArray 155)
         have hsA:=(MapKept.heap_alloc wr (.cells (H.map cO).toArray 155)).1
         have JL:(wr.alloc (.cells (H.map cO).toArray 155)).heap.size=wr.heap.size+1:=by simp
         have VK:hb+1<wr.heap.size:=(Array.getElem?_eq_some_iff.1 BP.out).1
         obtain⟨sb,hsb⟩:∃sb,sb=wr.heap.size:=⟨_,rfl⟩
         rw[←hsb]at hsA JL⊢
         obtain⟨wA,hwA⟩:∃wA:World,wA=wr.alloc (.cells (H.map cO).toArray 155):=⟨_,rfl⟩
         rw[←hwA]at RP hsA JL⊢
         have hwW:wA.heap[wb]? =some (.cells (wW ws) 156 (0,0)):=(RP.block wb Yy).trans HW.out
         have hwK:wA.heap[hb+1]? =some (.cells pV 156 (0,0)):=(RP.block (hb+1) VK).trans BP.out
         have hwH:wA.heap[hb]? =some (.cells (H.map cO).toArray 155 (0,0)):=(RP.block hb (by omega)).trans HRH.out
         have hKA:Keeps (fun b=>b=hb) w1 wA:=RN.out.trans (Keeps.below RP) fun x hx hx'=>absurd hx (by have:wr.heap.size≤x:=hx';have:=RN.out.size;omega)
         have hsbb:wb<sb∧hb+1<sb:=by omega
         have HWW:=Lib.hid hwW
         have YA:=Lib.hid hwK
         have HWH:=Lib.hid hwH
         have HKA:=Lib.hid hKA
         have YB:=Lib.hid hsA
         have HZA:=Lib.hid JL
         have OP:Hid ((H.map cO).toArray=((pF.of H).list.map cO).toArray):=by
          show(H.map cO).toArray=_
          obtain⟨x0,x1,x2,x3,x4,x5,x6,x7,he⟩:=eight H8.out
          rw[he]
          rfl
         have HN0:=Lib.hid (pF.Uv xV.out)
         have r6:Hid (∀(x:Int) (w:World),0≤x→Calls Tryz.prog 106 #[.int .u32 x, .int .u64 6] w fun e w'=>e= .returned (.int .u32 (iF x 26))∧w=w'):=fun x w h=>rt 6 rfl x w h (by omega) (by omega)
         have WZ:Hid (∀(x:Int) (w:World),0≤x→Calls Tryz.prog 106 #[.int .u32 x, .int .u64 11] w fun e w'=>e= .returned (.int .u32 (iF x 21))∧w=w'):=fun x w h=>rt 11 rfl x w h (by omega) (by omega)
         have W9:Hid (∀(x:Int) (w:World),0≤x→Calls Tryz.prog 106 #[.int .u32 x, .int .u64 25] w fun e w'=>e= .returned (.int .u32 (iF x 7))∧w=w'):=fun x w h=>rt 25 rfl x w h (by omega) (by omega)
         have r2:Hid (∀(x:Int) (w:World),0≤x→Calls Tryz.prog 106 #[.int .u32 x, .int .u64 2] w fun e w'=>e= .returned (.int .u32 (iF x 30))∧w=w'):=fun x w h=>rt 2 rfl x w h (by omega) (by omega)
         have W_:Hid (∀(x:Int) (w:World),0≤x→Calls Tryz.prog 106 #[.int .u32 x, .int .u64 13] w fun e w'=>e= .returned (.int .u32 (iF x 19))∧w=w'):=fun x w h=>rt 13 rfl x w h (by omega) (by omega)
         have Xa:Hid (∀(x:Int) (w:World),0≤x→Calls Tryz.prog 106 #[.int .u32 x, .int .u64 22] w fun e w'=>e= .returned (.int .u32 (iF x 10))∧w=w'):=fun x w h=>rt 22 rfl x w h (by omega) (by omega)
         clear hwW hwK hwH hKA hsA JL RP hwA hsb
         go_loopw [14] (fun iv wx=>∃(i:Nat) (st:pF),iv= .int .i64 i∧i≤64∧st=jq (pF.of H) ws i∧wx.heap[sb]? =some (.cells (st.list.map cO).toArray 155 (0,0))∧Keeps (fun b=>b=sb) wA wx) (fun iv _=>64-(intOf iv).toNat)
         case atStart=>exact⟨0,pF.of H,rfl,by omega,rfl,by rw[←OP.out];exact YB.out,Keeps.refl _ _⟩
         case round=>
          obtain⟨i,⟨sa,sc,sd,se,sf,sg,sh,sj⟩,rfl,hi,hst,hsx,hKs⟩:=hrel
          have HST:=Lib.hid hst
          have RB:=Lib.hid hsx
          have HKS:=Lib.hid hKs
          by_cases Jc:i<64
          ·skip
           have hd:decide ((i:Int)<64)=true:=by simp;omega
           obtain⟨ww,MS⟩:∃ww,ww=ws.getD i 0:=⟨_,rfl⟩
           obtain⟨kk,hkk⟩:∃kk,kk=kM.getD i 0:=⟨_,rfl⟩
           have hzz:=HZA.out
           have hbW:wr.heap[wb]? =some (.cells (wW ws) 156 (0,0)):=(hKs.block wb (by omega) (fun e:wb=sb=>by omega)).trans HWW.out
           have hbK:wr.heap[hb+1]? =some (.cells pV 156 (0,0)):=(hKs.block (hb+1) (by omega) (fun e:hb+1=sb=>by omega)).trans YA.out
           have uI:Hid (∀w':World,w'.heap[sb]? =wr.heap[sb]? →w'.cell? ⟨sb,0,none⟩=some (.int .u32 sa)∧w'.cell? ⟨sb,1,none⟩=some (.int .u32 sc)∧w'.cell? ⟨sb,2,none⟩=some (.int .u32 sd)∧w'.cell? ⟨sb,3,none⟩=some (.int .u32 se)∧w'.cell? ⟨sb,4,none⟩=some (.int .u32 sf)∧w'.cell? ⟨sb,5,none⟩=some (.int .u32 sg)∧w'.cell? ⟨sb,6,none⟩=some (.int .u32 sh)∧w'.cell? ⟨sb,7,none⟩=some (.int .u32 sj)):=fun w' h=>by
            rw[hsx]at h
            refine⟨?_,?_,?_,?_,?_,?_,?_,?_⟩<;>simp[World.cell?,h,pF.list]
           have Xv:Hid (∀w':World,w'.heap[wb]? =wr.heap[wb]? →w'.cell? ⟨wb,i,none⟩=some (.int .u32 ww)):=fun w' h=>by
            rw[MS]
            exact jR (h.trans hbW) (by rw[Yw];exact Jc)
           have Q0:Hid (∀w':World,w'.heap[hb+1]? =wr.heap[hb+1]? →w'.cell? ⟨hb+1,i,none⟩=some (.int .u32 kk)):=fun w' h=>by
            rw[hkk]
            exact GX (h.trans hbK) Jc
           have VL:=pF.yK HN0.out ws i
           rw[←hst]at VL
           have pf:0≤sf:=VL.f
           have pa:0≤sa:=VL.a
           have RA:=Lib.hid (And.intro MS hkk)
           have li:(i:Int)<64:=by omega
           have i0:(0:Int)≤(i:Int):=by omega
           have hti:((i:Int)).toNat=i:=by omega
           have hsw:sb<wr.heap.size:=(Array.getElem?_eq_some_iff.1 hsx).1
           obtain⟨c0,c1,c2,c3,c4,c5,c6,c7⟩:=uI.out wr rfl
           clear MS hkk hst hsx hKs hbW hbK VL
           go_wp2_with fail
           go_quiet (fail)
           clear c0 c1 c2 c3 c4 c5 c6 c7
           have Nz:Hid (∀b:Nat,(wr.drewN nq).heap[b]? =wr.heap[b]?):=fun b=>rfl
           have YC:Hid (Keeps (fun _=>False) wr (wr.drewN nq)):=⟨rfl,rfl,rfl,Nat.le_refl _,fun _ _ _=>rfl⟩
           generalize wr.drewN nq=wq at*
           obtain⟨c0,c1,c2,c3,c4,c5,c6,c7⟩:=uI.out wq (Nz.out _)
           have cw:=Xv.out wq (Nz.out _)
           have ck:=Q0.out wq (Nz.out _)
           go_wp2_with fail
           go_quiet ((go_at_call 106;first|(with_reducible exact Calls.quiet_of_same (g_ (r6.out sf _ pf)))|(with_reducible exact Calls.quiet_of_same (g_ (WZ.out sf _ pf)))|(with_reducible exact Calls.quiet_of_same (g_ (W9.out sf _ pf)))))
           clear c0 c1 c2 c3 c4 c5 c6 c7 cw ck
           have UC:Hid (∀b:Nat,(wq.drewN nq).heap[b]? =wr.heap[b]?):=fun b=>Nz.out b
           have YD:Hid (Keeps (fun _=>False) wr (wq.drewN nq)):=YC.out.trans (show Keeps (fun _=>False) wq (wq.drewN nq)from⟨rfl,rfl,rfl,Nat.le_refl _,fun _ _ _=>rfl⟩) fun x _ hx=>hx
           generalize wq.drewN nq=wq2 at*
           obtain⟨c0,c1,c2,c3,c4,c5,c6,c7⟩:=uI.out wq2 (UC.out _)
           go_wp2_with fail
           go_quiet ((go_at_call 106;first|(with_reducible exact Calls.quiet_of_same (g_ (r2.out sa _ pa)))|(with_reducible exact Calls.quiet_of_same (g_ (W_.out sa _ pa)))|(with_reducible exact Calls.quiet_of_same (g_ (Xa.out sa _ pa)))))
           clear c0 c1 c2 c3 c4 c5 c6 c7
           have UD:Hid (∀b:Nat,(wq2.drewN nq).heap[b]? =wr.heap[b]?):=fun b=>UC.out b
           have YE:Hid (Keeps (fun _=>False) wr (wq2.drewN nq)):=YD.out.trans (show Keeps (fun _=>False) wq2 (wq2.drewN nq)from⟨rfl,rfl,rfl,Nat.le_refl _,fun _ _ _=>rfl⟩) fun x _ hx=>hx
           generalize wq2.drewN nq=wq3 at*
           obtain⟨c0,c1,c2,c3,c4,c5,c6,c7⟩:=uI.out wq3 (UD.out _)
           have Aj:=Lib.hid ((UD.out sb).trans RB.out)
           go_wp2_with (refine tF rfl 155 _ _ rfl sb _ rfl rfl _ Aj.out (by kernel_rfl) (by kernel_rfl) (by kernel_rfl) ?_;intro w9 hrs;have VN:=Lib.hid hrs;clear hrs c0 c1 c2 c3 c4 c5 c6 c7)
           go_roundw
           case rel=>
            refine⟨i+1,qw ⟨sa,sc,sd,se,sf,sg,sh,sj⟩ kk ww,by go_num,by omega,?_,by rw[Dx];exact VN.out.1,(HKS.out.trans YE.out fun x _ hx=>False.elim hx).trans VN.out.2.1 fun x _ hx=>hx⟩
            show _=qw (jq (pF.of H) ws i) (kM.getD i 0) (ws.getD i 0)
            rw[←HST.out,RA.out.1,RA.out.2]
           case measure=>simp[intOf];omega
          ·have hd:decide ((i:Int)<64)=false:=by simp;omega
           have AP:i=64:=by omega
           rw[AP]at hst
           obtain⟨L,hL⟩:∃L:List Int,L=(⟨sa,sc,sd,se,sf,sg,sh,sj⟩:pF).list:=⟨_,rfl⟩
           rw[←hL]at hsx
           have hL8:L.length=8:=by rw[hL];rfl
           have hLL:L=(jq (pF.of H) (dI blk 48) 64).list:=by rw[hL,hst,Yx.out]
           have hzz:=HZA.out
           have hhx:wr.heap[hb]? =some (.cells (H.map cO).toArray 155 (0,0)):=(hKs.block hb (by omega) (fun e:hb=sb=>by omega)).trans HWH.out
           have hKh:Keeps (fun b=>b=hb) w1 wr:=HKA.out.trans hKs fun x hx (e:x=sb)=>by omega
           have Xg:=Lib.hid hL8
           have BN:=Lib.hid hLL
           have YF:=Lib.hid hsx
           have YG:=Lib.hid hhx
           have HKH:=Lib.hid hKh
           have HZZ:=Lib.hid hzz
           clear AP hst hL hL8 hLL hsx hhx hKh hKs hi Jc HST RB HKS hzz
           go_wp2_with fail
           go_loopw [19] (fun iv wx=>∃i:Nat,iv= .int .i64 i∧i≤8∧wx.heap[hb]? =some (.cells (((eH H blk).take i++H.drop i).map cO++[]).toArray 155 (0,0))∧wx.heap[sb]? =some (.cells (L.map cO).toArray 155 (0,0))∧Keeps (fun b=>b=hb) w1 wx) (fun iv _=>8-(intOf iv).toNat)
           case atStart=>exact⟨0,rfl,by omega,by simpa using YG.out,YF.out,HKH.out⟩
           case round=>
            obtain⟨i,rfl,hi,hhx,hsx,hkx⟩:=hrel
            have HHI:=Lib.hid hhx
            have HSI:=Lib.hid hsx
            have HKI:=Lib.hid hkx
            by_cases zQ:i<8
            ·have hd:decide ((i:Int)<8)=true:=by simp;omega
             have zX:=iW H blk H8.out
             obtain⟨x,hx⟩:∃x,x=L.getD i 0:=⟨_,rfl⟩
             obtain⟨y,hy⟩:∃y,y=H.getD i 0:=⟨_,rfl⟩
             have d1:wr.cell? ⟨sb,i,none⟩=some (.int .u32 x):=by
              rw[hx]
              have:=sN Xg.out zQ
              simp only[World.cell?,hsx]
              exact this
             have d2:wr.cell? ⟨hb,i,none⟩=some (.int .u32 y):=by
              rw[hy]
              have:=zn (A:=eH H blk) (B:=H) (tail:=[]) zX H8.out zQ
              simp only[World.cell?,hhx]
              exact this
             have df:wr.frozen? ⟨hb,i,none⟩=false:=by simp[World.frozen?,hhx]
             have Sz:=Lib.hid (And.intro hx hy)
             have i8':(i:Int)<8:=by omega
             have i0:(0:Int)≤(i:Int):=by omega
             have hti:((i:Int)).toNat=i:=by omega
             clear hx hy hsx hhx hkx zX
             go_wp2_with fail
             refine wp_region_noPanic ?_
             refine aH (last:=9) (S:=(fun w'=>w'.cell? ⟨hb,i,none⟩=some (.int .u32 y)∧w'.cell? ⟨sb,i,none⟩=some (.int .u32 x)∧w'.frozen? ⟨hb,i,none⟩=false)) (by kernel_rfl) ?_ (fun hS=> ?_)
             ·exact⟨d2,d1,df⟩
             refine aC 0 (hS:=hS) (h:= ?_)
             refine aC 1 (hS:=hS) (h:= ?_)
             refine aC 2 (hS:=hS) (h:= ?_)
             refine aC 3 (hS:=hS) (h:= ?_)
             refine aC 4 (hS:=hS) (h:= ?_)
             refine aC 5 (hS:=hS) (h:= ?_)
             refine aC 6 (hS:=hS) (h:= ?_)
             refine aC 7 (hS:=hS) (h:= ?_)
             refine aC 8 (hS:=hS) (h:= ?_)
             refine dh 9 (h:=fun K hK=> ?_)
             go_simp
             refine hK.out _ _ (fun h=>absurd rfl h) (fun hS=> ?_)
             clear hS hK K
             try simp only[Act.put,List.setIfInBounds_toArray,List.set_cons_zero,List.set_cons_succ]
             refine aG (by kernel_rfl) ?_ _
             refine NoPanic.normal ?_
             go_wp2_with fail
             go_roundw
             case rel=>
              have zX:=iW H blk H8.out
              have e9:zW (y+x)=(eH H blk).getD i 0:=by
               rw[vQ H8.out zQ,←BN.out,Sz.out.1,Sz.out.2]
              refine⟨i+1,by go_num,by omega,?_,?_,?_⟩
              ·rw[←En zX H8.out zQ,←e9]
               exact aL (w:=wr.drew) HHI.out
              ·refine(aP wr.drew ⟨hb,i,none⟩ _ sb ?_).trans HSI.out
               show sb≠hb
               omega
              ·exact((HKI.out.trans (show Keeps (fun x=>x=hb) wr wr.drew from⟨rfl,rfl,rfl,Nat.le_refl _,fun _ _ _=>rfl⟩) fun x _ hx=>hx).trans (Keeps.fE wr.drew ⟨hb,i,none⟩ _) fun x _ hx=>hx)
             case measure=>simp[intOf];omega
            ·have hd:decide ((i:Int)<8)=false:=by simp;omega
             have DF:i=8:=by omega
             have e1:(eH H blk).take 8=eH H blk:=List.take_of_length_le (by rw[iW H blk H8.out];omega)
             have e2:H.drop 8=[]:=List.drop_eq_nil_of_le (by rw[H8.out];omega)
             rw[DF,e1,e2,List.append_nil,List.append_nil]at hhx
             have e3:eH H blk=runM oJ (k+1) X:=by rw[pI,←BQ.out,Uy.out,HP.out]
             rw[e3]at hhx
             have HF:=Lib.hid hhx
             have ewp:IntKind.i64.wrap ((p:Int)+64)=(p:Int)+64:=IntWalk.i64_in _ (by omega)
             clear e1 e2 e3 DF hhx hsx hkx hi zQ
             go_wp2_with fail
             go_roundw
             case rel=>exact⟨k+1,p+64,by go_num,by have:=HP.out;omega,by omega,HF.out,HKI.out⟩
             case measure=>simp[intOf];omega
      ·have hd:decide (p<M)=false:=by have:=Oq.out;simp;omega
       as_aux_lemma=>
       have hkN:k=NB:=by omega
       have YH:X.length=M:=by simpa using mg.out.length
       have hRE:uE H=iG bs:=by
        rw[Lb,←HX.out,YH,Oq.out,Nat.mul_div_cancel_left _ (by omega),←hkN,BQ.out]
       have SS:=Lib.hid hRE
       have hwr:w.heap.size≤wr.heap.size:=Nat.le_trans HB1.out.size Jh.out.size
       have hbo:Below w.heap.size w wr:=HB1.out.trans (Jh.out.iH HB1.out.size fun x hx (e:x=hb)=>by omega)
       have HBO:=Lib.hid hbo
       obtain⟨wo,rfl⟩:∃wo:World,wo=wr:=⟨_,rfl⟩
       have GY:hb<wo.heap.size:=(Array.getElem?_eq_some_iff.1 VJ.out).1
       clear hp hkN YH hRE hbo hk hlt hpM
       go_wp2_with fail
       go_loopw [20,21] (fun v iv wx=>∃(i:Nat) (a':Option Addr) (c':Nat),v= .slice a' (4*i) c'∧iv= .int .i64 i∧i≤8∧wx.ownsRow wo.heap.size 5 1 v (4*i) ((uE (H.take i)).map bv)∧Below wo.heap.size wo wx) (fun _ iv _=>8-(intOf iv).toNat)
       case atStart=>exact⟨0,none,0,rfl,rfl,by omega,⟨rfl, .inl ⟨rfl,rfl⟩⟩,Below.refl _ _⟩
       case round=>
        obtain⟨i,a2,c2,rfl,rfl,hi,hown,hbx⟩:=hrel
        have BO:=Lib.hid hown
        have uw:=Lib.hid hbx
        by_cases zQ:i<8
        ·have hd:decide ((i:Int)<8)=true:=by simp;omega
         obtain⟨z,hz⟩:∃z,z=H.getD i 0:=⟨_,rfl⟩
         have hcz:wr.cell? ⟨hb,i,none⟩=some (.int .u32 z):=by
          rw[hz]
          exact QV H8.out ((hbx.block hb GY).trans VJ.out) zQ
         have YI:Hid (∀w',Below wr.heap.size wr w'→w'.cell? ⟨hb,i,none⟩=some (.int .u32 z)):=fun w' h=>(h.cell (p:=⟨hb,i,none⟩) (Nat.lt_of_lt_of_le GY hbx.size)).trans hcz
         have HZ:=Lib.hid hz
         have i8':(i:Int)<8:=by omega
         have i0:(0:Int)≤(i:Int):=by omega
         have hti:((i:Int)).toNat=i:=by omega
         clear hz hown hbx hcz
         go_wp2_with fail
         refine wp_region_noPanic ?_
         refine aH (last:=22) (S:=(fun w'=>w'.cell? ⟨hb,i,none⟩=some (.int .u32 z))) (by kernel_rfl) ?_ (fun hS=> ?_)
         ·exact YI.out _ (Below.refl _ _).drew
         refine aC 0 (hS:=hS) (h:= ?_)
         refine aC 1 (hS:=hS) (h:= ?_)
         refine aC 2 (hS:=hS) (h:= ?_)
         refine aC 3 (hS:=hS) (h:= ?_)
         refine aC 4 (hS:=hS) (h:= ?_)
         refine aC 5 (hS:=hS) (h:= ?_)
         refine aC 6 (hS:=hS) (h:= ?_)
         refine aC 7 (hS:=hS) (h:= ?_)
         refine aC 8 (hS:=hS) (h:= ?_)
         refine aC 9 (hS:=hS) (h:= ?_)
         refine aC 10 (hS:=hS) (h:= ?_)
         refine aC 11 (hS:=hS) (h:= ?_)
         refine aC 12 (hS:=hS) (h:= ?_)
         refine aC 13 (hS:=hS) (h:= ?_)
         refine aC 14 (hS:=hS) (h:= ?_)
         refine aC 15 (hS:=hS) (h:= ?_)
         refine aC 16 (hS:=hS) (h:= ?_)
         refine aC 17 (hS:=hS) (h:= ?_)
         refine aC 18 (hS:=hS) (h:= ?_)
         refine aC 19 (hS:=hS) (h:= ?_)
         refine dh 20 (h:=fun K hK=> ?_)
         go_simp
         refine hK.out _ _ (fun _=>YI.out _ ((Below.refl _ _).drew.alloc (Nat.le_refl _) _)) (fun hS=> ?_)
         replace hS:=hS (by decide)
         clear hK K
         try simp only[Act.put,List.setIfInBounds_toArray,List.set_cons_zero,List.set_cons_succ]
         refine aj (rs:=[21]) (by kernel_rfl) (by simp) ?_
         refine ah.cons (o:= ?o1) ?ho1 (fun K hK=> ?_) ah.nil
         case ho1=>simp only[List.getElem?_toArray,List.getElem?_cons_succ,List.getElem?_cons_zero];rfl
         refine au (by rfl) (.tmp 244) (.tmp 264) 39 (by rfl) wo.heap.size 5 i8 _ 1 1 Tryz.underlying39 HI.out.1 HI.out.2.1 HI.out.2.2.1 HI.out.2.2.2 rfl (by omega) _ (4*i) ((uE (H.take i)).map bv) (by rfl) (bY BO.out fun b hb hbw=>(wall wr.drew _).block b hbw) _ 4 _ [.int .u8 (z/16777216%256), .int .u8 (z/65536%256), .int .u8 (z/256%256), .int .u8 (z%256)] (by rfl) (fC (w:=wr.drew) [.int .u8 (z/16777216%256), .int .u8 (z/65536%256), .int .u8 (z/256%256), .int .u8 (z%256)] 5 (by simp[maxLen])) (by simp[Value.oneCell']) (by unfold maxLen;omega) (by omega) (by have:=uw.out.size;simp;omega) ?_
         intro A9 c9 w9 iK uy
         have yg:=Lib.hid ((uw.out.trans (((Below.refl wr.heap.size wr).drew.alloc (Nat.le_refl _) _).mono uw.out.size)).trans uy)
         have Jp:=Lib.hid iK
         refine hK.out _ _ (fun _=>(uy.cell (p:=⟨hb,i,none⟩) GY).trans (YI.out _ ((Below.refl _ _).drew.alloc (Nat.le_refl _) _))) (fun hS=> ?_)
         replace hS:=hS (by decide)
         clear hK K
         try simp only[Act.put,List.setIfInBounds_toArray,List.set_cons_zero,List.set_cons_succ]
         clear iK uy
         refine dh 22 (h:=fun K hK=> ?_)
         go_simp
         refine hK.out _ _ (fun h=>absurd rfl h) (fun hS=> ?_)
         clear hS hK K
         try simp only[Act.put,List.setIfInBounds_toArray,List.set_cons_zero,List.set_cons_succ]
         refine aG (by kernel_rfl) ?_ _
         refine NoPanic.normal ?_
         go_wp2_with fail
         go_roundw
         case rel=>
          have e9:4*(i+1)=4*i+4:=by omega
          refine⟨i+1,A9,c9,by rw[e9],by go_num,by omega,?_,yg.out⟩
          rw[e9,yw (by rw[H8.out];exact zQ),List.map_append,←HZ.out,←ZM]
          exact Jp.out
         case measure=>simp[intOf];omega
        ·have hd:decide ((i:Int)<8)=false:=by simp;omega
         have DF:i=8:=by omega
         have h9:=BO.out
         rw[DF,List.take_of_length_le (by rw[H8.out];exact Nat.le_refl 8),SS.out]at h9
         have H9:=Lib.hid h9
         have L_:=Lib.hid DF
         clear h9 DF hown hi zQ
         go_wp2_with fail
         go_ret
         have h9:=H9.out
         have e4:4*8=(iG bs).length:=(oL bs).symm
         rw[L_.out]
         rw[e4]at h9⊢
         exact⟨a2,c2,rfl,vS h9 hwr,HBO.out.trans (uw.out.mono hwr)⟩
    |succ k=>
     have hk0:(0:Int)≤k:=by omega
     have e3:8*((k+1:Nat):Int)-8=8*(k:Int):=by omega
     rw[e3]
     have e4:IntKind.u64.wrap (8*(k:Int))=8*(k:Int):=by simp[IntKind.wrap,IntKind.bits,IntKind.signed];omega
     have e5:IntKind.i64.wrap (8*(k:Int)-8)=8*(k:Int)-8:=IntWalk.i64_in _ (by omega)
     have hge:decide ((0:Int)≤8*(k:Int))=true:=by simp;omega
     have hge2:(0:Int)≤8*(k:Int):=by omega
     obtain⟨m3,Av⟩:∃m3,m3=m+dn.length:=⟨_,rfl⟩
     rw[←Av]at AQ⊢
     have JA:=Lib.hid Av
     have Xp:m3≤n+80:=by omega
     have hbw:=jG hN0 k
     obtain⟨b0,hb0⟩:∃b0,b0=UInt8.ofNat ((N/2^(8*k)).toNat%256):=⟨_,rfl⟩
     rw[←hb0]at hbw
     have Xw:Hid (Value.int .u8 (N/2^(8*k)%256)=bv b0):=by
      show Value.int .u8 (N/2^(8*k)%256)=bv b0
      have e9:(8*(k:Int)).toNat=8*k:=by omega
      rw[e9]at hbw
      simp only[IntKind.wrap,IntKind.bits,IntKind.signed]at hbw
      simp at hbw
      simp[bv]
      omega
     have HB0:=Lib.hid hb0
     clear hb0 hbw Av
     go_wp2_with (at_builtin;refine bS rfl _ _ 39 rfl w.heap.size 5 i8 _ 1 1 Tryz.underlying39 HI.out.1 HI.out.2.1 HI.out.2.2.1 HI.out.2.2.2 rfl (by omega) (.slice a1 m3 c1) m3 ((P++dn).map bv) rfl (bY AQ.out fun b hb hbw=>(wall wr _).block b hbw) (some ⟨wr.heap.size,0,none⟩) 1 1 [.int .u8 (N/2^(8*k)%256)] rfl (fC (w:=wr) [.int .u8 (N/2^(8*k)%256)] 5 (by simp[maxLen])) (by simp[Value.oneCell']) (by unfold maxLen;omega) (by omega) (by have:=HB3.out.size;simp;omega) ?_;intro A4 c4 w4 kI hb4;have JC:=Lib.hid kI;have kS:=Lib.hid ((HB3.out.trans ((wall wr _).mono HB3.out.size)).trans hb4);clear kI hb4)
     go_roundw
     case rel=>
      have e9:m+(dn++[b0]).length=m3+1:=by have:=JA.out;simp;omega
      refine⟨k,dn++[b0],A4,c4,by omega,by go_num,?_,by simp;omega,by rw[e9],?_,kS.out⟩
      ·rw[List.append_assoc,←xZ.out,HB0.out]
       rfl
      ·rw[e9]
       have h8:=JC.out
       rw[Xw.out]at h8
       simpa using h8
     case measure=>simp[intOf];omega
  ·have SG:¬m%64=56:=fun e=>hjz (hsp.1 e)
   have hd:((m:Int)%64 !=56)=true:=by simp;omega
   clear hsp
   go_wp2_with (at_builtin;refine bS rfl _ _ 39 rfl w.heap.size 5 i8 _ 1 1 Tryz.underlying39 HI.out.1 HI.out.2.1 HI.out.2.2.1 HI.out.2.2.2 rfl (by omega) (.slice a' m c') m ((bs++[128]++List.replicate j 0).map bv) rfl (bY HO.out fun b hb hbw=>(wall wr _).block b hbw) (some ⟨wr.heap.size,0,none⟩) 1 1 [bv 0] rfl (fC (w:=wr) [bv 0] 5 (by simp[maxLen])) (by simp[Value.oneCell',bv]) (by unfold maxLen;omega) (by omega) (by have:=HB.out.size;simp;omega) ?_;intro A4 c4 w4 kI hb4;have JC:=Lib.hid kI;have kS:=Lib.hid ((HB.out.trans ((wall wr _).mono HB.out.size)).trans hb4);clear kI hb4)
   go_roundw
   case rel=>
    have e9:n+1+(j+1)=m+1:=by have:=HM.out;omega
    refine⟨j+1,A4,c4,by rw[e9],by omega,?_,kS.out⟩
    rw[e9,List.replicate_succ']
    simpa using JC.out
   case measure=>show n+200-(m+1)<n+200-m;have:=HM.out;omega
end Go.Proofs.YtohpcppeajijnaaGreat
