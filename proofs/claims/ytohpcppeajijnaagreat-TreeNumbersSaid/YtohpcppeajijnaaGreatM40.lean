/- package sha: (*Stream).Sum. package sha: Sum. -/
import Derived.Test.YtohpcppeajijnaaGreatM39
namespace Go.Proofs.YtohpcppeajijnaaGreat
open Go.ChangeShapes Go.WideShapes Go.ChangeAt Go.RowKit
set_option linter.unusedVariables false
set_option linter.unusedSimpArgs false
theorem zR (r j:Nat) (hj:j≤nH r):((r+1+j)%64=56↔j=nH r):=by
 unfold nH at*
 omega
theorem Ic (r0 r1 r2 r3 r4 r5 r6 r7:Int) (w:World):(Instr.index 240 (.agg #[.int .u32 r0, .int .u32 r1, .int .u32 r2, .int .u32 r3, .int .u32 r4, .int .u32 r5, .int .u32 r6, .int .u32 r7]) (.int .i64 0)).run Tryz.prog w= .ok (.int .u32 r0) w:=by
 kernel_rfl
theorem Ie (r0 r1 r2 r3 r4 r5 r6 r7:Int) (w:World):(Instr.index 240 (.agg #[.int .u32 r0, .int .u32 r1, .int .u32 r2, .int .u32 r3, .int .u32 r4, .int .u32 r5, .int .u32 r6, .int .u32 r7]) (.int .i64 1)).run Tryz.prog w= .ok (.int .u32 r1) w:=by
 kernel_rfl
theorem Ig (r0 r1 r2 r3 r4 r5 r6 r7:Int) (w:World):(Instr.index 240 (.agg #[.int .u32 r0, .int .u32 r1, .int .u32 r2, .int .u32 r3, .int .u32 r4, .int .u32 r5, .int .u32 r6, .int .u32 r7]) (.int .i64 2)).run Tryz.prog w= .ok (.int .u32 r2) w:=by
 kernel_rfl
theorem Ih (r0 r1 r2 r3 r4 r5 r6 r7:Int) (w:World):(Instr.index 240 (.agg #[.int .u32 r0, .int .u32 r1, .int .u32 r2, .int .u32 r3, .int .u32 r4, .int .u32 r5, .int .u32 r6, .int .u32 r7]) (.int .i64 3)).run Tryz.prog w= .ok (.int .u32 r3) w:=by
 kernel_rfl
theorem Ii (r0 r1 r2 r3 r4 r5 r6 r7:Int) (w:World):(Instr.index 240 (.agg #[.int .u32 r0, .int .u32 r1, .int .u32 r2, .int .u32 r3, .int .u32 r4, .int .u32 r5, .int .u32 r6, .int .u32 r7]) (.int .i64 4)).run Tryz.prog w= .ok (.int .u32 r4) w:=by
 kernel_rfl
theorem Ij (r0 r1 r2 r3 r4 r5 r6 r7:Int) (w:World):(Instr.index 240 (.agg #[.int .u32 r0, .int .u32 r1, .int .u32 r2, .int .u32 r3, .int .u32 r4, .int .u32 r5, .int .u32 r6, .int .u32 r7]) (.int .i64 5)).run Tryz.prog w= .ok (.int .u32 r5) w:=by
 kernel_rfl
theorem Ik (r0 r1 r2 r3 r4 r5 r6 r7:Int) (w:World):(Instr.index 240 (.agg #[.int .u32 r0, .int .u32 r1, .int .u32 r2, .int .u32 r3, .int .u32 r4, .int .u32 r5, .int .u32 r6, .int .u32 r7]) (.int .i64 6)).run Tryz.prog w= .ok (.int .u32 r6) w:=by
 kernel_rfl
theorem Il (r0 r1 r2 r3 r4 r5 r6 r7:Int) (w:World):(Instr.index 240 (.agg #[.int .u32 r0, .int .u32 r1, .int .u32 r2, .int .u32 r3, .int .u32 r4, .int .u32 r5, .int .u32 r6, .int .u32 r7]) (.int .i64 7)).run Tryz.prog w= .ok (.int .u32 r7) w:=by
 kernel_rfl
theorem Ns (r0 r1 r2 r3 r4 r5 r6 r7:Int) (k:Nat) (hk:k<8) (w:World):(Instr.index 240 (.agg #[.int .u32 r0, .int .u32 r1, .int .u32 r2, .int .u32 r3, .int .u32 r4, .int .u32 r5, .int .u32 r6, .int .u32 r7]) (.int .i64 k)).run Tryz.prog w= .ok (.int .u32 (([r0,r1,r2,r3,r4,r5,r6,r7]:List Int).getD k 0)) w:=by
 match k,hk with
 |0,_=>exact Ic r0 r1 r2 r3 r4 r5 r6 r7 w
 |1,_=>exact Ie r0 r1 r2 r3 r4 r5 r6 r7 w
 |2,_=>exact Ig r0 r1 r2 r3 r4 r5 r6 r7 w
 |3,_=>exact Ih r0 r1 r2 r3 r4 r5 r6 r7 w
 |4,_=>exact Ii r0 r1 r2 r3 r4 r5 r6 r7 w
 |5,_=>exact Ij r0 r1 r2 r3 r4 r5 r6 r7 w
 |6,_=>exact Ik r0 r1 r2 r3 r4 r5 r6 r7 w
 |7,_=>exact Il r0 r1 r2 r3 r4 r5 r6 r7 w
theorem ZF (z:Int):[Value.int .u8 (z/16777216%256), .int .u8 (z/65536%256), .int .u8 (z/256%256), .int .u8 (z%256)]=(f_ (z%4294967296) 4).map bv:=by
 unfold f_ f_ f_ f_ f_
 simp[bv]
 refine⟨?_,?_,?_,?_⟩<;>omega
theorem EL {R:List Int} {k:Nat} (hk:k<R.length):zQ (R.take (k+1))=zQ (R.take k)++f_ (R.getD k 0%4294967296) 4:=by
 unfold zQ
 rw[List.take_succ_eq_append_getElem hk,List.flatMap_append,List.getD_eq_getElem?_getD,List.getElem?_eq_getElem hk]
 simp
theorem EM (r:Nat):nH r<64:=by unfold nH;omega
set_option maxRecDepth 100000 in
set_option maxHeartbeats 8000000 in
theorem Im (x:Nat) (h:List Int) (v:Value) (n r:Nat) (rest:List UInt8) (w:World) (hh:h.length=8) (hx:w.heap[x]? =some (.cells (dL h v n) 244 (0,0))) (hv:w.ownsRow 0 5 1 v r (rest.map bv)) (hr:r<64) (hn:n≤100000000):
  Calls Tryz.prog 180 #[ptr x] w (pV w (zQ (runM h ((wI rest n).length/64) (wI rest n)))):=by
 obtain⟨i8,hi⟩:∃i,Tryz.prog.info? 5=some i∧i.zero=some (.int .u8 0)∧i.size=1∧i.bytes=1:=info_parts (by kernel_rfl)
 have HI:=Lib.hid hi
 obtain⟨a,c,rfl,hac⟩:=eP hv
 obtain⟨-,-,hrow⟩:=ak.tV hv (by unfold maxLen;omega)
 rw[Nat.mul_one]at hrow
 have hrl:rest.length=r:=by simpa using hrow.length
 have hxw:=(Array.getElem?_eq_some_iff.1 hx).1
 have c72:w.cell? ⟨x,72,none⟩=some (.slice a r c):=by simp only[World.cell?,hx];exact yB hh _ _
 have ZG:=Lib.hid (BK a r c rest w (by omega) hrow)
 have HX:=Lib.hid hx
 have PY:=Lib.hid hh
 have XI:=Lib.hid hrl
 clear hi hx hv hrow hh hrl
 go_enter Tryz.func180,Tryz.ntmps180
 go_wp2_with fail
 (with_reducible refine ZG.out.mono ?_)
 rintro e w1 ⟨v1,rfl,hown1,hb1⟩
 obtain⟨a1,c1,rfl,Ub⟩:=eP hown1
 rw[XI.out]at hown1 Ub⊢
 have nN:=Lib.hid hown1
 have HB1:=Lib.hid hb1
 clear hown1 hb1
 go_wp2_with (at_builtin;refine gq rfl _ _ 39 rfl w.heap.size 5 i8 _ 1 1 Tryz.underlying39 HI.out.1 HI.out.2.1 HI.out.2.2.1 HI.out.2.2.2 rfl (by omega) (.slice a1 r c1) r (rest.map bv) rfl (fK nN.out fun b hb hbw=>(wall w1 _).block b hbw) (some ⟨w1.heap.size,0,none⟩) 1 1 [bv 128] rfl (iy (w:=w1) [bv 128] 5 (by simp[maxLen])) (by simp[Value.oneCell',bv]) (by unfold maxLen;omega) (by omega) (by have:=HB1.out.size;simp;omega) ?_;intro A2 c2 w2 hown2 hb2;have FT:=Lib.hid hown2;have HB2:=Lib.hid ((HB1.out.trans ((wall w1 _).mono HB1.out.size)).trans hb2);clear hown2 hb2)
 go_loopw [3] (fun v wx=>∃(j:Nat) (a':Option Addr) (c':Nat),v= .slice a' (r+1+j) c'∧j≤nH r∧wx.ownsRow w.heap.size 5 1 v (r+1+j) ((rest++[128]++List.replicate j 0).map bv)∧Below w.heap.size w wx) (fun v _=>200-(match v with| .slice _ m _=>m|_=>0))
 case atStart=>exact⟨0,A2,c2,rfl,Nat.zero_le _,by simpa using FT.out,HB2.out⟩
 case round=>
  obtain⟨j,a',c',rfl,hj,hown,hb⟩:=hrel
  have HO:=Lib.hid hown
  have HB:=Lib.hid hb
  have hz:=EM r
  have hsp:=zR r j hj
  obtain⟨m,hm⟩:∃m,m=r+1+j:=⟨_,rfl⟩
  rw[←hm]at HO hsp⊢
  have HM:=Lib.hid hm
  have XJ:m≤200:=by omega
  clear hown hb hm
  by_cases hjz:j=nH r
  ·have XK:m%64=56:=hsp.2 hjz
   have hd:((m:Int)%64 !=56)=false:=by simp;omega
   have K6:wr.heap[x]? =some (.cells (dL h (.slice a r c) n) 244 (0,0)):=(HB.out.block x hxw).trans HX.out
   have ZB:wr.cell? ⟨x,73,none⟩=some (.int .i64 n):=by simp only[World.cell?,K6];exact PV PY.out _ _
   have e1:IntKind.u64.wrap (n:Int)=(n:Int):=by simp[IntKind.wrap,IntKind.bits,IntKind.signed];omega
   have e2:IntKind.u64.wrap ((n:Int)*8)=(n:Int)*8:=by simp[IntKind.wrap,IntKind.bits,IntKind.signed];omega
   obtain⟨P,hP⟩:∃P,P=rest++[128]++List.replicate j 0:=⟨_,rfl⟩
   rw[←hP]at HO
   have WJ:Hid (P=rest++[128]++List.replicate (nH rest.length) 0):=by
    show P=_
    rw[hP,hjz,XI.out]
   have K8:Hid ((m+8)%64=0):=by show(m+8)%64=0;omega
   clear hsp XK hjz K6 hP
   go_wp2_with fail
   obtain⟨N,hN⟩:∃N:Int,N=(n:Int)*8:=⟨_,rfl⟩
   rw[←hN]
   have hN0:0≤N:=by omega
   have HN:=Lib.hid hN
   clear hN e2
   go_loopw [3,5] (fun v kv wx=>∃(k:Nat) (dn:List UInt8) (a':Option Addr) (c':Nat),v= .slice a' (m+dn.length) c'∧kv= .int .i64 ((k:Int)-1)∧k≤8∧dn++f_ N k=f_ N 8∧dn.length+k=8∧wx.ownsRow w.heap.size 5 1 v (m+dn.length) ((P++dn).map bv)∧Below w.heap.size w wx) (fun _ kv _=>((intOf kv)+1).toNat)
   case atStart=>exact⟨8,[],a',c',rfl,by go_num,by omega,rfl,rfl,by simpa using HO.out,HB.out⟩
   case round=>
    obtain⟨k,dn,a3,c3,rfl,rfl,hk,hdn,hdl,hown,hb⟩:=hrel
    have Jh:=Lib.hid hown
    have HB3:=Lib.hid hb
    have xM:=Lib.hid hdn
    obtain⟨m3,Jc⟩:∃m3,m3=m+dn.length:=⟨_,rfl⟩
    rw[←Jc]at Jh⊢
    have KX:=Lib.hid Jc
    have ZH:m3≤208:=by omega
    clear hown hb hdn Jc
    cases k with
    |zero=>
     have e0:((0:Nat):Int)-1= -1:=by omega
     rw[e0]
     have PZ:dn=f_ N 8:=by
      have h9:=xM.out
      unfold f_ at h9
      rw[List.append_nil]at h9
      rw[h9];rfl
     obtain⟨E,hE⟩:∃E,E=P++dn:=⟨_,rfl⟩
     rw[←hE]at Jh
     have hEl:E.length=m3:=by have:=Jh.out.1;simp at this;omega
     have O4:Hid (E=wI rest n):=by
      show E=wI rest n
      rw[hE,PZ,WJ.out,HN.out]
      rfl
     have Nr:m3%64=0:=by have:=KX.out;have:=K8.out;omega
     have K6:wr.heap[x]? =some (.cells (dL h (.slice a r c) n) 244 (0,0)):=(HB3.out.block x hxw).trans HX.out
     have P5:x<wr.heap.size:=(Array.getElem?_eq_some_iff.1 K6).1
     obtain⟨h0,h1,h2,h3,h4,h5,h6,h7,Jj⟩:=eight PY.out
     have hc:∀i,i<8→wr.cell? ⟨x,i,none⟩=some (g_ (h.getD i 0)):=fun i hi=>by
      have h9:=TY PY.out (.slice a r c) n i hi
      simp only[World.cell?,K6]
      exact h9
     have c0:wr.cell? ⟨x,0,none⟩=some (.int .u32 h0):=by have:=hc 0 (by omega);rw[Jj]at this;exact this
     have c1:wr.cell? ⟨x,1,none⟩=some (.int .u32 h1):=by have:=hc 1 (by omega);rw[Jj]at this;exact this
     have c2:wr.cell? ⟨x,2,none⟩=some (.int .u32 h2):=by have:=hc 2 (by omega);rw[Jj]at this;exact this
     have c3':wr.cell? ⟨x,3,none⟩=some (.int .u32 h3):=by have:=hc 3 (by omega);rw[Jj]at this;exact this
     have c4:wr.cell? ⟨x,4,none⟩=some (.int .u32 h4):=by have:=hc 4 (by omega);rw[Jj]at this;exact this
     have c5:wr.cell? ⟨x,5,none⟩=some (.int .u32 h5):=by have:=hc 5 (by omega);rw[Jj]at this;exact this
     have c6:wr.cell? ⟨x,6,none⟩=some (.int .u32 h6):=by have:=hc 6 (by omega);rw[Jj]at this;exact this
     have c7:wr.cell? ⟨x,7,none⟩=some (.int .u32 h7):=by have:=hc 7 (by omega);rw[Jj]at this;exact this
     have J6:=Lib.hid Jj
     have QM:=Lib.hid K6
     have HE:=Lib.hid hE
     clear hc Jj K6 hE PZ hdl hk
     go_wp2_with fail
     have hal:=(MapKept.heap_alloc wr (.cells #[.int .u32 h0, .int .u32 h1, .int .u32 h2, .int .u32 h3, .int .u32 h4, .int .u32 h5, .int .u32 h6, .int .u32 h7] 240)).1
     have hwl:=wall wr (.cells #[.int .u32 h0, .int .u32 h1, .int .u32 h2, .int .u32 h3, .int .u32 h4, .int .u32 h5, .int .u32 h6, .int .u32 h7] 240)
     obtain⟨hb5,KF⟩:∃z,z=wr.heap.size:=⟨_,rfl⟩
     rw[←KF]at hal⊢
     have XL:Below w.heap.size w (wr.alloc (.cells #[.int .u32 h0, .int .u32 h1, .int .u32 h2, .int .u32 h3, .int .u32 h4, .int .u32 h5, .int .u32 h6, .int .u32 h7] 240)):=HB3.out.trans (hwl.mono HB3.out.size)
     have XM:=fK Jh.out fun b hb hbw=>hwl.block b hbw
     have ZI:w.heap.size≤hb5:=by rw[KF];exact HB3.out.size
     have OD:∀b,(Value.slice a3 m3 c3).ownBlock=some b→b<hb5:=fun b hb=>by rw[KF];exact nX Jh.out b hb
     generalize wr.alloc (.cells #[.int .u32 h0, .int .u32 h1, .int .u32 h2, .int .u32 h3, .int .u32 h4, .int .u32 h5, .int .u32 h6, .int .u32 h7] 240)=w5 at*
     have P6:w5.heap[hb5]? =some (.cells ((h.map g_++[]).toArray) 240 (0,0)):=by
      rw[J6.out,List.append_nil]
      exact hal
     have Oo:Hid (∀i,i<64→w5.cell? ⟨x,8+i,none⟩=some (g_ (kM.getD i 0))):=fun i hi=>by
      have h9:=PW PY.out (.slice a r c) n i hi
      rw[hwl.cell (p:=⟨x,8+i,none⟩) P5]
      simp only[World.cell?,QM.out]
      exact h9
     have P7:x<w5.heap.size:=Nat.lt_of_lt_of_le P5 hwl.size
     have Uc:x≠hb5:=by omega
     have Lr:ak (fun b=>b≠hb5) w5 a3 m3 (E.map bv):=by
      obtain⟨-,-,h9⟩:=ak.tV Jh.out (by unfold maxLen;omega)
      rw[Nat.mul_one]at h9
      exact(h9.below hwl (Nat.le_refl _)).mono fun b hb=>by omega
     have ZJ:m3≤c3:=by
      obtain⟨_,_,e,h9⟩:=eP Jh.out
      cases e
      exact h9
     have P8:=Lib.hid Lr
     have Ud:=Lib.hid P6
     have iY:=Lib.hid XL
     have O9:=Lib.hid XM
     have NQ:=Lib.hid OD
     have O6:=Lib.hid hEl
     clear Lr hal P6 XL XM OD hEl hwl KF c0 c1 c2 c3' c4 c5 c6 c7
     go_loopw [3] (fun v wx=>∃(k:Nat) (a':Option Addr) (c':Nat),v= .slice a' (m3-64*k) c'∧64*k≤m3∧m3-64*k≤c'∧ak (fun b=>b≠hb5) wx a' (m3-64*k) ((E.drop (64*k)).map bv)∧wx.heap[hb5]? =some (.cells (((runM h k E).map g_++[]).toArray) 240 (0,0))∧Keeps (fun b=>b=hb5) w5 wx) (fun v _=>match v with| .slice _ m _=>m|_=>0)
     case atStart=>exact⟨0,a3,c3,rfl,by omega,by omega,P8.out,Ud.out,Keeps.refl _ _⟩
     case round=>
      obtain⟨k,a',c',rfl,hk,hc',CV,hxk,H_⟩:=hrel
      have h8:(runM h k E).length=8:=lu k _ _ PY.out
      obtain⟨q,hq⟩:∃q,q=m3-64*k:=⟨_,rfl⟩
      rw[←hq]at CV hc'⊢
      have sN:=Lib.hid hxk
      have HKK:=Lib.hid H_
      have Kl:=Lib.hid CV
      have HQ:=Lib.hid hq
      have Ue:x<wr.heap.size:=Nat.lt_of_lt_of_le P7 H_.size
      by_cases h0q:0<q
      ·have h64:64≤q:=by omega
       have hd:decide ((0:Int)<(q:Int))=true:=by simp;omega
       have hkc:∀i,i<64→wr.drew.cell? ⟨x,8+i,none⟩=some (g_ (kM.getD i 0)):=fun i hi=>by
        have h9:=Oo.out i hi
        rw[←h9]
        exact World.cell?_of_block (w:=w5) (w':=wr.drew) (a:=⟨x,8+i,none⟩) (H_.block x P7 Uc)
       have Ia:ak (fun b=>b≠hb5) wr.drew a' 64 (((E.drop (64*k)).take 64).map bv):=by
        have:=(CV.take 64).below (Below.refl _ _).drew (Nat.le_refl _)
        rwa [Nat.min_eq_right h64,←List.map_take]at this
       have HT:=Lib.hid (zP hb5 x 8 240 (runM h k E) [] a' 64 c' ((E.drop (64*k)).take 64) wr.drew h8 hxk hkc Ue Ia (Nat.le_refl _) (by omega))
       have g1:(64:Int)≤(c':Int):=by omega
       have g2:(64:Int)≤(q:Int):=by omega
       have g3:(q:Int)≤(c':Int):=by omega
       clear hxk H_ CV hq hkc Ia h8
       go_wp2_with fail
       refine wp_region_noPanic ?_
       refine bW (last:=5) (S:=(fun _=>True)) (by kernel_rfl) ?_ (fun hS=> ?_)
       ·trivial
       refine aT 0 (hS:=hS) (h:= ?_)
       refine aT 1 (hS:=hS) (h:= ?_)
       refine aT 2 (hS:=hS) (h:= ?_)
       refine aT 3 (hS:=hS) (h:= ?_)
       refine aT 4 (hS:=hS) (h:= ?_)
       refine jF 5 (h:=fun K hK=> ?_)
       go_simp
       (with_reducible refine HT.out.mono ?_)
       rintro e w6 ⟨rfl,hx6,xD⟩
       have ZK:=Lib.hid hx6
       have mV:=Lib.hid xD
       clear hx6 xD
       go_wp2_with fail
       refine hK.out _ _ (fun h=>absurd rfl h) (fun hS=> ?_)
       clear hS hK K
       try simp only[Act.put,List.setIfInBounds_toArray,List.set_cons_zero,List.set_cons_succ]
       refine aV (by kernel_rfl) ?_ _
       refine NoPanic.normal ?_
       go_wp2_with fail
       go_roundw
       case rel=>
        have e1:m3-64*(k+1)=q-64:=by have:=HQ.out;omega
        have Ko:Keeps (fun b=>b=hb5) w5 w6:=(HKK.out.trans (show Keeps (fun b=>b=hb5) wr wr.drew from⟨rfl,rfl,rfl,Nat.le_refl _,fun _ _ _=>rfl⟩) fun x _ hx=>hx).trans mV.out fun x _ hx=>hx
        have hr2:ak (fun b=>b≠hb5) w6 a' q ((E.drop (64*k)).map bv):=Kl.out.move mV.out.size fun b hb hbw=>⟨hb,mV.out.block b hbw hb⟩
        have e2:(E.drop (64*(k+1))).map bv=((E.drop (64*k)).map bv).drop 64:=by
         rw[←List.map_drop,List.drop_drop]
         congr 2
        refine⟨k+1,_,c'-64,by rw[e1],by have:=HQ.out;omega,by rw[e1];omega,?_,?_,Ko⟩
        ·rw[e1,e2]
         obtain⟨b,off,rfl,-,-,-⟩:=Kl.out.at_ (by omega)
         by_cases hc:c'=64
         ·rw[if_pos hc]
          refine ak.zero _ _ _ (by omega) (List.drop_eq_nil_of_le ?_)
          rw[List.length_map,List.length_drop,O6.out]
          have:=HQ.out
          omega
         ·rw[if_neg hc]
          exact hr2.drop 64
        ·rw[sI]
         exact ZK.out
       case measure=>show q-64<q;omega
      ·have hd:decide ((0:Int)<(q:Int))=false:=by simp;omega
       have Hz:m3/64=k:=by have:=HQ.out;omega
       have h9:=sN.out
       rw[List.append_nil]at h9
       obtain⟨R,hR⟩:∃R,R=runM h k E:=⟨_,rfl⟩
       rw[←hR]at h9 h8
       have Sl:Hid (R=runM h ((wI rest n).length/64) (wI rest n)):=by
        show R=_
        rw[hR,←O4.out,O6.out,Hz]
       have Jy:=Lib.hid h9
       have hBr:Below w.heap.size w wr:=iY.out.trans (H_.jr iY.out.size fun b hb (he:b=hb5)=>by omega)
       have Je:=Lib.hid hBr
       obtain⟨r0,r1,r2,r3,r4,r5,r6,r7,hre⟩:=eight h8
       have Uf:hb5<wr.heap.size:=(Array.getElem?_eq_some_iff.1 hxk).1
       have ZL:Hid (∀w':World,w'.heap[hb5]? =wr.heap[hb5]? →w'.cell? ⟨hb5,0,none⟩=some (.int .u32 r0)∧w'.cell? ⟨hb5,1,none⟩=some (.int .u32 r1)∧w'.cell? ⟨hb5,2,none⟩=some (.int .u32 r2)∧w'.cell? ⟨hb5,3,none⟩=some (.int .u32 r3)∧w'.cell? ⟨hb5,4,none⟩=some (.int .u32 r4)∧w'.cell? ⟨hb5,5,none⟩=some (.int .u32 r5)∧w'.cell? ⟨hb5,6,none⟩=some (.int .u32 r6)∧w'.cell? ⟨hb5,7,none⟩=some (.int .u32 r7)):=fun w' hw=>by
        rw[Jy.out,hre]at hw
        refine⟨?_,?_,?_,?_,?_,?_,?_,?_⟩<;>simp[World.cell?,hw]
       have Nt:=Lib.hid hre
       clear hxk H_ CV hq h9 hR Hz hBr hre h8
       go_wp2_with (at_make;refine wpList_make_own _ rfl _ _ 39 rfl w.heap.size 5 i8 (.int .u8 0) 1 Tryz.underlying39 HI.out.1 HI.out.2.1 HI.out.2.2.1 .i64 .i64 32 32 rfl rfl rfl (by rw[HI.out.2.2.2];omega) (by unfold maxLen;omega) Je.out.size ?_;intro w7 sV BN;have Lb:=Lib.hid sV;have P9:=BN.block hb5 Uf (fun e=>by cases e);obtain⟨z0,z1,z2,z3,z4,z5,z6,z7⟩:=ZL.out w7 P9;have yD:=Lib.hid (Je.out.grown BN Je.out.size (fun k hk=>by cases hk));clear sV BN P9)
       go_loopw [7,9,59] (fun v _ iv wx=>∃(k:Nat) (a':Option Addr) (c':Nat),v= .slice a' (4*k) c'∧iv= .int .i64 k∧k≤8∧wx.ownsRow w.heap.size 5 1 v (4*k) ((zQ (R.take k)).map bv)∧Below w.heap.size w wx) (fun _ _ iv _=>8-(intOf iv).toNat)
       case atStart=>exact⟨0,_,32,rfl,rfl,by omega,Lb.out,yD.out⟩
       case round=>
        obtain⟨k,a',c',rfl,rfl,hk,hown,hb⟩:=hrel
        have JR:=Lib.hid hown
        have tH:=Lib.hid hb
        clear hown hb
        by_cases hlt:k<8
        ·have hd:decide ((k:Int)<8)=true:=by simp;omega
         have hix:=Ns r0 r1 r2 r3 r4 r5 r6 r7 k hlt
         rw[←Nt.out]at hix
         obtain⟨z,hz⟩:∃z,z=R.getD k 0:=⟨_,rfl⟩
         rw[←hz]at hix
         have HZ:=Lib.hid hz
         clear hz
         go_wp2_with (at_builtin;refine gq rfl _ _ 39 rfl w.heap.size 5 i8 _ 1 1 Tryz.underlying39 HI.out.1 HI.out.2.1 HI.out.2.2.1 HI.out.2.2.2 rfl (by omega) (.slice a' (4*k) c') (4*k) ((zQ (R.take k)).map bv) rfl (fK JR.out fun b hb hbw=>(wall wr _).block b hbw) (some ⟨wr.heap.size,0,none⟩) 4 4 [.int .u8 (z/16777216%256), .int .u8 (z/65536%256), .int .u8 (z/256%256), .int .u8 (z%256)] rfl (iy (w:=wr) [.int .u8 (z/16777216%256), .int .u8 (z/65536%256), .int .u8 (z/256%256), .int .u8 (z%256)] 5 (by simp[maxLen])) (by simp[Value.oneCell']) (by unfold maxLen;omega) (by omega) (by have:=tH.out.size;simp;omega) ?_;intro A9 c9 w9 nP AJ;have M6:=Lib.hid nP;have LQ:=Lib.hid ((tH.out.trans ((wall wr _).mono tH.out.size)).trans AJ);clear nP AJ)
         go_roundw
         case rel=>
          have e9:4*(k+1)=4*k+4:=by omega
          refine⟨k+1,A9,c9,by rw[e9],by go_num,by omega,?_,LQ.out⟩
          rw[e9,EL (by rw[Nt.out];exact hlt),List.map_append,←HZ.out,←ZF]
          exact M6.out
         case measure=>simp[intOf];omega
        ·have hd:decide ((k:Int)<8)=false:=by simp;omega
         have QS:k=8:=by omega
         go_wp2_with fail
         go_ret
         have h9:=JR.out
         rw[QS,List.take_of_length_le (by rw[Nt.out];exact Nat.le_refl 8),Sl.out]at h9
         obtain⟨-,KV,Jw⟩:=ak.tV h9 (by unfold maxLen;omega)
         rw[QS]
         exact⟨a',4*8,c',rfl,KV,by simpa using Jw,tH.out⟩
    |succ k=>
     have hk0:(0:Int)≤k:=by omega
     have e3:((k+1:Nat):Int)-1=(k:Int):=by omega
     rw[e3]
     have e4:IntKind.i64.wrap (8*(k:Int))=8*(k:Int):=IntWalk.i64_in _ (by omega)
     have hge:decide ((0:Int)≤(k:Int))=true:=by simp
     have hbw:=kS hN0 k
     obtain⟨b0,hb0⟩:∃b0,b0=UInt8.ofNat ((N/2^(8*k)).toNat%256):=⟨_,rfl⟩
     rw[←hb0]at hbw
     have ZM:Hid (Value.int .u8 (N/2^(8*k)%256)=bv b0):=by
      show Value.int .u8 (N/2^(8*k)%256)=bv b0
      have e9:(8*(k:Int)).toNat=8*k:=by omega
      rw[e9]at hbw
      simp only[IntKind.wrap,IntKind.bits,IntKind.signed]at hbw
      simp at hbw
      simp[bv]
      omega
     have HB0:=Lib.hid hb0
     clear hb0 hbw
     go_wp2_with (at_builtin;refine gq rfl _ _ 39 rfl w.heap.size 5 i8 _ 1 1 Tryz.underlying39 HI.out.1 HI.out.2.1 HI.out.2.2.1 HI.out.2.2.2 rfl (by omega) (.slice a3 m3 c3) m3 ((P++dn).map bv) rfl (fK Jh.out fun b hb hbw=>(wall wr _).block b hbw) (some ⟨wr.heap.size,0,none⟩) 1 1 [.int .u8 (N/2^(8*k)%256)] rfl (iy (w:=wr) [.int .u8 (N/2^(8*k)%256)] 5 (by simp[maxLen])) (by simp[Value.oneCell']) (by unfold maxLen;omega) (by omega) (by have:=HB3.out.size;simp;omega) ?_;intro A4 c4 w4 mE hb4;have GX:=Lib.hid mE;have eG:=Lib.hid ((HB3.out.trans ((wall wr _).mono HB3.out.size)).trans hb4);clear mE hb4)
     go_roundw
     case rel=>
      have e9:m+(dn++[b0]).length=m3+1:=by have:=KX.out;simp;omega
      refine⟨k,dn++[b0],A4,c4,by rw[e9],by go_num,by omega,?_,by simp;omega,?_,eG.out⟩
      ·rw[List.append_assoc,←xM.out,HB0.out]
       rfl
      ·rw[e9]
       have h8:=GX.out
       rw[ZM.out]at h8
       simpa using h8
     case measure=>simp[intOf]
  ·have XK:¬m%64=56:=fun e=>hjz (hsp.1 e)
   have hd:((m:Int)%64 !=56)=true:=by simp;omega
   clear hsp
   go_wp2_with (at_builtin;refine gq rfl _ _ 39 rfl w.heap.size 5 i8 _ 1 1 Tryz.underlying39 HI.out.1 HI.out.2.1 HI.out.2.2.1 HI.out.2.2.2 rfl (by omega) (.slice a' m c') m ((rest++[128]++List.replicate j 0).map bv) rfl (fK HO.out fun b hb hbw=>(wall wr _).block b hbw) (some ⟨wr.heap.size,0,none⟩) 1 1 [bv 0] rfl (iy (w:=wr) [bv 0] 5 (by simp[maxLen])) (by simp[Value.oneCell',bv]) (by unfold maxLen;omega) (by omega) (by have:=HB.out.size;simp;omega) ?_;intro A4 c4 w4 mE hb4;have GX:=Lib.hid mE;have eG:=Lib.hid ((HB.out.trans ((wall wr _).mono HB.out.size)).trans hb4);clear mE hb4)
   go_roundw
   case rel=>
    have e9:r+1+(j+1)=m+1:=by have:=HM.out;omega
    refine⟨j+1,A4,c4,by rw[e9],by omega,?_,eG.out⟩
    rw[e9,List.replicate_succ']
    simpa using GX.out
   case measure=>show 200-(m+1)<200-m;have:=HM.out;omega
theorem Io {w:World} {B B':Nat} {e:TypeId} {k:Nat} {v:Value} {n:Nat} {xs:List Value} (h:w.ownsRow B e k v n xs) (hB:B'≤B):w.ownsRow B' e k v n xs:=by
 obtain⟨h1,h2⟩:=h
 refine⟨h1,?_⟩
 rcases h2 with h2|⟨g,cap,cur,e1,e2,e3⟩
 ·exact .inl h2
 ·exact .inr ⟨g,cap,cur,e1,Nat.le_trans hB e2,e3⟩
set_option maxRecDepth 100000 in
set_option maxHeartbeats 4000000 in
theorem Nu {S:Nat→Prop} (nb:Nat) (a:Option Addr) (n c:Nat) (bs:List UInt8) (w:World) (hc:w.cell? ⟨nb,0,none⟩=some (.slice a n c)) (hnb:nb<w.heap.size) (hr:ak S w a n (bs.map bv)) (hn:n≤100000000) (hnc:n≤c):
  Calls Tryz.prog 150 #[.slice (some ⟨nb,0,none⟩) 1 1] w (pV w (nU bs)):=by
 have hr1:ak (fun b=>b<w.heap.size) w a n (bs.map bv):=hr.move (Nat.le_refl _) fun b hb hbw=>⟨hbw,rfl⟩
 have hbl:bs.length=n:=by simpa using hr.length
 have HR:=Lib.hid hr1
 have DI:=Lib.hid hbl
 clear hr hr1 hbl
 go_enter Tryz.func150,Tryz.ntmps150
 go_wp2_with fail
 (with_reducible refine(BM _).mono ?_)
 rintro e w1 ⟨x,rfl,hxw,hx,hb1⟩
 have HX:=Lib.hid hx
 have HB1:=Lib.hid hb1
 clear hx hb1
 go_wp2_with fail
 go_loopw [5,9] (fun _ iv wx=>(iv= .int .i64 0∧wx.heap[x]? =some (.cells (dL yA (.slice none 0 0) 0) 244 (0,0))∧Below w.heap.size w wx)∨(iv= .int .i64 1∧∃v,wx.heap[x]? =some (.cells (dL (runM yA (n/64) bs) v n) 244 (0,0))∧wx.ownsRow 0 5 1 v (n%64) ((bs.drop (64*(n/64))).map bv)∧Below w.heap.size w wx)) (fun _ iv _=>1-(intOf iv).toNat)
 case atStart=>exact .inl ⟨rfl,HX.out,HB1.out⟩
 case round=>
  rcases hrel with⟨rfl,hx,hb⟩|⟨rfl,v,hx,hv,hb⟩
  ·have hcr:=(hb.cell (p:=⟨nb,0,none⟩) hnb).trans hc
   have QU:=Lib.hid (EK x a n c bs wr hx (HR.out.below hb (Nat.le_refl _)) (fun b hb'=>by omega) hn hnc)
   have HB:=Lib.hid hb
   clear hx hb
   go_wp2_with fail
   (with_reducible refine QU.out.mono ?_)
   rintro e w2 ⟨rfl,v,hx2,hv2,hK2⟩
   have Fh:=Lib.hid hx2
   have ZN:=Lib.hid hv2
   have yU:=Lib.hid hK2
   clear hx2 hv2 hK2
   go_wp2_with fail
   go_roundw
   case rel=>exact .inr ⟨rfl,v,Fh.out,Io ZN.out (Nat.zero_le _),HB.out.trans (yU.out.jr HB.out.size fun b hb (he:b=x)=>by omega)⟩
   case measure=>decide
  ·have HS:=Lib.hid (Im x (runM yA (n/64) bs) v n (n%64) (bs.drop (64*(n/64))) wr (lu _ _ _ rfl) hx hv (Nat.mod_lt _ (by omega)) hn)
   have HB:=Lib.hid hb
   clear hx hv hb
   go_wp2_with fail
   (with_reducible refine HS.out.mono ?_)
   rintro e w2 ⟨a2,n2,c2,rfl,hn2,hr2,hb2⟩
   have HR2:=Lib.hid hr2
   have HB2:=Lib.hid hb2
   clear hr2 hb2
   go_wp2_with fail
   go_ret
   have hs:=HB.out.size
   refine⟨a2,n2,c2,rfl,hn2,?_,HB.out.trans (HB2.out.mono hs)⟩
   have h9:=HR2.out.mono (S':=fun b=>w.heap.size≤b∧b<w2.heap.size) fun b hb=>⟨by omega,hb.2⟩
   unfold nU
   rw[DI.out,Nat.mul_comm (n/64) 64]
   exact h9
theorem KG {S:Nat→Prop} (a:Option Addr) (n c:Nat) (bs:List UInt8) (w:World) (hr:ak S w a n (bs.map bv)) (hn:n≤100000000) (hnc:n≤c):
  Calls Tryz.prog 102 #[.slice a n c] w (pV w (nU bs)):=by
 have HO:=Lib.hid (Nu (w:=w.alloc (.cells #[.slice a n c] 39)) w.heap.size a n c bs jM (by simp) (hr.below (wall w _) (Nat.le_refl _)) hn hnc)
 clear hr
 go_enter Tryz.func102,Tryz.ntmps102
 go_wp2_with fail
 (with_reducible refine HO.out.mono ?_)
 rintro e w2 ⟨a2,n2,c2,rfl,hn2,hr2,hb2⟩
 have HR2:=Lib.hid hr2
 have HB2:=Lib.hid hb2
 clear hr2 hb2
 go_wp2_with fail
 go_ret
 exact⟨a2,n2,c2,rfl,hn2,HR2.out.mono fun b hb=>⟨by have:=hb.1;simp at this;omega,hb.2⟩,(wall w _).trans (HB2.out.mono (by simp))⟩
end Go.Proofs.YtohpcppeajijnaaGreat
