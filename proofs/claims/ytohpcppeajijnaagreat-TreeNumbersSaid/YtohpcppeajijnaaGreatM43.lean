/- permafrostlaw11.deep: the walk. permafrostlaw11.full, plainly: a tree that fills up. permafrostlaw11.known. -/
import Derived.Test.YtohpcppeajijnaaGreatM42
import Derived.Test.YtohpcppeajijnaaGreatM14
import Derived.Test.YtohpcppeajijnaaGreatM18
import Derived.Test.YtohpcppeajijnaaGreatM41
namespace Go.Proofs.YtohpcppeajijnaaGreat
open Go.ChangeShapes Go.WideShapes Go.ChangeAt Go.RowKit
set_option linter.unusedVariables false
set_option linter.unusedSimpArgs false
section
variable {W w:World} {o:Mark} {t y:Nat} {T U:aH}
theorem T2.other (h:T2 W o w t y T U) {w':World} {o':Mark} (hs:Step o (fun k=>k=3) w o' w'):T2 W o' w' t y T U:=
 ⟨h.marks.step (by simp) hs,h.tr.step (by simp) (by simp) hs,h.rt.step (by simp) (by simp) hs,h.Dc,h.Df⟩
open Classical in
theorem BR {u u':World} {v v':Value} (hM:Marks W o w) (hv:∀b,v.ownBlock=some b→o b=3∧b<w.heap.size) (hb:Below w.heap.size w u) (hg:u.grownBy u' v.ownBlock) (hat:v'.ownBlock=v.ownBlock∨v'.ownBlock=some u.heap.size) (hl:∀b,v'.ownBlock=some b→b<u'.heap.size):
  ∃o',Step o (fun k=>k=3) w o' u'∧∀b,v'.ownBlock=some b→o' b=3∧b<u'.heap.size:=by
 obtain⟨o',ho⟩:∃o':Mark,∀b,o' b=if v'.ownBlock=some b then 3 else o b:=⟨_,fun _=>rfl⟩
 have hs:=hb.size
 have hgs:=hg.size
 refine⟨o',⟨fun b hb'=> ?_,fun b hb' hn=> ?_,⟨hg.os.trans hb.os,hg.tape.trans hb.tape,hg.output.trans hb.output,Nat.le_trans hs hgs,fun b hb' hne=> ?_⟩⟩,fun b hb'=>⟨by rw[ho,if_pos hb'],hl b hb'⟩⟩
 ·rw[ho]
  by_cases h:v'.ownBlock=some b
  ·rw[if_pos h]
   rcases hat with e|e
   ·exact(hv b (e▸h)).1.symm
   ·rw[e]at h;cases h;omega
  ·rw[if_neg h]
 ·rw[ho]at hn⊢
  by_cases h:v'.ownBlock=some b
  ·rw[if_pos h];exact⟨rfl,hl b h⟩
  ·rw[if_neg h]at hn;have:=(hM.new b hn).2;omega
 ·refine(hg.block b (by omega) fun e=>hne ?_).trans (hb.block b hb')
  exact(hv b e.symm).1
end
def IL (W:World) (t y k:Nat) (v:Value) (w:World):Prop:=∃o T a c,v= .slice a k c∧w.ownsRow 0 9 1 v k ((List.replicate k ([100]:Nm)).map fun l=> .string (strOf l))∧(∀b,v.ownBlock=some b→o b=3∧b<w.heap.size)∧T2 W o w t y T T
def Lv (W:World) (t y lb:Nat) (w:World):Prop:=∃o T,T2 W o w t y T T∧lC o w lb 18
section
set_option maxRecDepth 100000 in
set_option maxHeartbeats 32000000 in
theorem deep_law (W:World):Calls Tryz.prog 33 #[] W fun e w'=>e= .returned (.bool true)∧Below W.heap.size W w':=by
 obtain⟨iS,hS⟩:∃i,Tryz.prog.info? 9=some i∧i.zero=some (.string ⟨#[]⟩)∧i.size=1∧i.bytes=16:=info_parts (by kernel_rfl)
 have HIS:=Lib.hid hS
 clear hS
 go_enter Tryz.func33,Tryz.ntmps33
 go_wp2_with fail
 (with_reducible refine(II W).mono ?_)
 rintro e w1 ⟨t,o1,rfl,hM1,hT1⟩
 have DV:=Lib.hid hM1
 have HT1:=Lib.hid hT1
 clear hM1 hT1
 go_wp2_with fail
 (with_reducible refine(IJ DV.out HT1.out).mono ?_)
 rintro e w2 ⟨y,o2,rfl,KW⟩
 have ZW:Hid (IL W t y 0 (.slice none 0 0) w2):=⟨o2,jE,none,0,rfl,⟨rfl, .inl ⟨rfl,rfl⟩⟩,fun b hb=>by simp[Value.ownBlock]at hb,KW⟩
 clear KW
 go_wp2_with fail
 go_loopw [3,4] (fun v i wr=>∃k:Nat,i= .int .i64 k∧k≤9∧IL W t y k v wr) (fun _ i _=>9-(intOf i).toNat)
 case atStart=>exact⟨0,rfl,by omega,ZW.out⟩
 case round=>
  obtain⟨k,rfl,hk,o,T,a,c,rfl,hown,hmk,hT⟩:=hrel
  have HT:=Lib.hid hT
  by_cases hlt:k<9
  ·as_aux_lemma=>
   have hd:decide ((k:Int)<9)=true:=by simp;omega
   have HO:=Lib.hid (fK hown fun b _ h=>(wall wr (.cells #[.string ⟨#[100]⟩] 9)).block b h)
   have Hf:=Lib.hid hmk
   have NC:=Lib.hid (wall wr (.cells #[.string ⟨#[100]⟩] 9))
   clear hown hmk hT
   go_wp2_with (at_builtin;go_loud (refine bC rfl _ _ 26 rfl 0 9 iS _ 16 Tryz.underlying26 HIS.out.1 HIS.out.2.1 HIS.out.2.2.1 HIS.out.2.2.2 rfl (.slice a k c) k ((List.replicate k ([100]:Nm)).map fun l=> .string (strOf l)) rfl HO.out (some ⟨wr.heap.size,0,none⟩) 1 1 [.string ⟨#[100]⟩] rfl (iy (w:=wr) [.string ⟨#[100]⟩] 9 (by simp[maxLen])) (by simp[Value.oneCell']) (by unfold maxLen;omega) (by omega) (Nat.zero_le _) ?_;intro A4 c4 w4 mE hg4 _ Qn;have GX:=Lib.hid mE;have ZX:=Lib.hid hg4;have Ur:=Lib.hid Qn;clear mE hg4 Qn))
   obtain⟨o4,hs4,KU⟩:=BR (v':= .slice A4 (k+1) c4) HT.out.marks Hf.out NC.out ZX.out Ur.out (fun b hb=>nX GX.out b hb)
   have Am:=Lib.hid KU
   have qm:=Lib.hid (HT.out.other hs4)
   have hr4:=(ak.mW GX.out).2
   have HST:Hid (aG (fun b=>o4 b=3∧b<w4.heap.size) w4 A4 (k+1) ((List.replicate (k+1) ([100]:Nm)).map strOf)):=by
    refine⟨?_,fun s hs=> ?_⟩
    ·rw[List.map_map]
     have h9:=hr4.at_
     have e9:(List.replicate k ([100]:Nm)).map (fun l=>Value.string (strOf l))++[.string ⟨#[100]⟩]=(List.replicate (k+1) ([100]:Nm)).map (Value.string∘strOf):=by
      rw[List.replicate_succ',List.map_append]
      rfl
     rw[e9]at hr4
     obtain⟨b4,e4,hlen⟩:∃b4,A4=some ⟨b4,0,none⟩∧(Value.slice A4 (k+1) c4).ownBlock=some b4:=by
      rcases GX.out.2 with⟨h1,_⟩|⟨g,cap,cur,h1,_⟩
      ·cases h1
      ·simp only[Value.slice.injEq]at h1
       obtain⟨rfl,_,_⟩:=h1
       exact⟨g,rfl,rfl⟩
     subst e4
     refine⟨hr4.length,hr4.small,fun h0=> ?_⟩
     obtain⟨b',off',e',_,hbw,hcc⟩:=hr4.at_ h0
     simp only[Option.some.injEq,Addr.mk.injEq,and_true]at e'
     obtain⟨rfl,rfl⟩:=e'
     exact⟨b4,0,rfl,KU b4 hlen,hbw,hcc⟩
    ·obtain⟨l,hl,rfl⟩:=List.mem_map.1 hs
     rw[dF,List.eq_of_mem_replicate hl]
     decide
   have ZY:Hid (w4.ownsRow 0 9 1 (.slice A4 (k+1) c4) (k+1) ((List.replicate (k+1) ([100]:Nm)).map fun l=> .string (strOf l))):=by
    have h9:=GX.out
    rw[List.replicate_succ',List.map_append]
    exact h9
   have hkc:k+1≤c4:=by
    obtain⟨a',c',he,hle⟩:=eP GX.out
    cases he
    exact hle
   have Z0:=Lib.hid (qm.out.make A4 (k+1) c4 (List.replicate (k+1) [100]) 2 HST.out hkc (by omega))
   clear hs4 KU hr4
   go_wp2_with fail
   (with_reducible refine Z0.out.mono ?_)
   rintro e w5 ⟨rfl,o5,hs5,Al⟩
   have LP:=Lib.hid hs5
   have zY:=Lib.hid Al
   have N8:∀b,o4 b=3→¬I2 (o4 b):=fun b hb h=>by rw[hb]at h;have:=h.2;omega
   have Us:=Lib.hid (HST.out.kept hs5.keep.size fun b hb hbw=>hs5.block hbw (N8 b hb.1))
   have Ut:=Lib.hid (fK ZY.out fun b hb hbw=>hs5.block hbw (N8 b (Am.out b hb).1))
   have K7:Hid (∀b,(Value.slice A4 (k+1) c4).ownBlock=some b→o5 b=3∧b<w5.heap.size):=fun b hb=>⟨(hs5.old b (Am.out b hb).2).trans (Am.out b hb).1,Nat.lt_of_lt_of_le (Am.out b hb).2 hs5.keep.size⟩
   have T_:=Lib.hid (Al.IC A4 (k+1) c4 (List.replicate (k+1) [100]) 2 Us.out hkc (by omega))
   clear hs5 Al N8
   go_wp2_with fail
   (with_reducible refine T_.out.mono ?_)
   rintro e w6 ⟨rfl,o6,hs6,Fe⟩
   have N8:∀b,o5 b=3→¬I2 (o5 b):=fun b hb h=>by rw[hb]at h;have:=h.2;omega
   have H6:Hid (IL W t y (k+1) (.slice A4 (k+1) c4) w6):=⟨o6,_,A4,c4,rfl,fK Ut.out (fun b hb hbw=>hs6.block hbw (N8 b (K7.out b hb).1)),fun b hb=>⟨(hs6.old b (K7.out b hb).2).trans (K7.out b hb).1,Nat.lt_of_lt_of_le (K7.out b hb).2 hs6.keep.size⟩,Fe⟩
   clear hs6 Fe N8
   generalize (aL T (List.replicate (k+1) [100]) 2).1.1=va
   generalize (aL T (List.replicate (k+1) [100]) 2).1.2=ve
   have hv1:(va !=va)=false:=by simp
   have hv2:(ve !=ve)=false:=by simp
   go_wp2_with fail
   go_roundw
   case rel=>exact⟨k+1,by go_num,by omega,H6.out⟩
   case measure=>simp[intOf];omega
  ·have hd:decide ((k:Int)<9)=false:=by simp;omega
   have hz:∀b,wr.heap.size≤b→o b=0:=fun b hb=>hT.zero hb
   have HL:=Lib.hid (nI.start hz [] (fun v hv=>by cases hv))
   clear hown hmk hT hlt hz
   go_wp2_with (refine j_ rfl 26 _ _ rfl rfl HL.out (by kernel_rfl) (by omega) (by kernel_rfl) ?_;intro bn wn hL;clear HL;have HL:=Lib.hid hL;clear hL)
   have HT2:=Lib.hid (HT.out.grow HL.out.b)
   obtain⟨lb,hlb⟩:∃lb,lb=wn.heap.size:=⟨_,rfl⟩
   rw[←hlb]
   have NC:=Lib.hid hlb
   clear hlb
   go_loopw [69] (fun i wr=>∃j:Nat,i= .int .i64 j∧j≤9∧Lv W t y lb wr) (fun i _=>9-(intOf i).toNat)
   case atStart=>
    refine⟨0,rfl,by omega,o,T,HT2.out.grow (wall wn _),?_⟩
    rw[NC.out]
    refine HL.out.table _ _ 18 (Nat.le_refl _) fun v hv=> ?_
    simp only[List.mem_toArray,List.mem_cons,List.not_mem_nil,or_false]at hv⊢
    rcases hv with rfl|rfl|rfl|rfl|rfl|rfl|rfl|rfl|rfl|rfl|rfl|rfl|rfl|rfl|rfl|rfl|rfl|rfl<;>simp
   case round=>
    obtain⟨j,rfl,hj,o,T,hT,hP⟩:=hrel
    have HT:=Lib.hid hT
    by_cases hlt:j<9
    ·have hd:decide ((j:Int)<9)=true:=by simp;omega
     obtain⟨v1,d1,a1,n1,c1,l1,rfl,g1,h1,s1⟩:=hP.2 (j*2) (by omega)
     obtain⟨v2,d2,a2,n2,c2,l2,rfl,g2,h2,s2⟩:=hP.2 (j*2+1) (by omega)
     have i0:(0:Int)≤(j:Int):=by omega
     have i1:(j:Int)<9:=by omega
     have hz0:=(MapKept.heap_alloc wr (.cells #[.slice a1 n1 c1, .slice a2 n2 c2] 142)).1
     have hbz:=wall wr (.cells #[.slice a1 n1 c1, .slice a2 n2 c2] 142)
     have hzs:(wr.alloc (.cells #[.slice a1 n1 c1, .slice a2 n2 c2] 142)).heap.size=wr.heap.size+1:=by simp
     have HP:=Lib.hid hP
     have qo:=Lib.hid s1
     have HS2:=Lib.hid s2
     have N9:o wr.heap.size=0:=hT.zero (Nat.le_refl _)
     have HZ0:=Lib.hid hz0
     have Qo:=Lib.hid hbz
     have N_:=Lib.hid hzs
     have Z4:=Lib.hid N9
     clear hT hP hz0 hbz hzs s1 s2 N9
     go_wp2_with fail
     have hzs:=N_.out
     have HT1:=Lib.hid (HT.out.grow Qo.out)
     have nM:=Lib.hid (HP.out.grow Qo.out)
     have hsA:=(qo.out.below Qo.out (Nat.le_refl _))
     have hsB:=(HS2.out.below Qo.out (Nat.le_refl _))
     obtain⟨zb,hzb⟩:∃zb,zb=wr.heap.size:=⟨_,rfl⟩
     have hz0:=HZ0.out
     have N9:=Z4.out
     rw[←hzb]at hz0 hzs N9⊢
     have QU:=Lib.hid Qo.out.size
     generalize wr.alloc (.cells #[.slice a1 n1 c1, .slice a2 n2 c2] 142)=w1 at*
     have K_:Hid (Free o w1 zb):=⟨N9,by omega⟩
     have HA:Hid (aG (Free o w1) w1 a1 n1 (l1.map strOf)):=hsA.mono fun b hb=>⟨hb.1,Nat.lt_of_lt_of_le hb.2 QU.out⟩
     have HB:Hid (aG (Free o w1) w1 a2 n2 (l2.map strOf)):=hsB.mono fun b hb=>⟨hb.1,Nat.lt_of_lt_of_le hb.2 QU.out⟩
     have QY:Hid (∀w':World,w'.heap[zb]? =w1.heap[zb]? →w'.cell? ⟨zb,0,none⟩=some (.slice a1 n1 c1)∧w'.cell? ⟨zb,1,none⟩=some (.slice a2 n2 c2)):=fun w' h=>by
      rw[hz0]at h
      constructor<;>simp[World.cell?,h]
     obtain⟨z0,z1⟩:=QY.out w1 rfl
     have Sk:=Lib.hid ((HT1.out.grow (Below.refl _ _).drew).rename a1 n1 c1 l1 a2 n2 c2 l2 (HA.out.below (Below.refl w1.heap.size w1).drew (Nat.le_refl _)) g1 (by omega) (HB.out.below (Below.refl w1.heap.size w1).drew (Nat.le_refl _)) g2 (by omega))
     clear hzs hsA hsB hzb hz0 N9 d1 d2
     refine wp_region_noPanic ?_
     refine wp_region_held_drew (S:=(fun w'=>w'.cell? ⟨zb,0,none⟩=some (.slice a1 n1 c1)∧w'.cell? ⟨zb,1,none⟩=some (.slice a2 n2 c2))) (by kernel_rfl) ?_ (fun hS=> ?_)
     ·exact⟨z0,z1⟩
     refine iV 0 (hS:=hS) (h:= ?_)
     refine iV 1 (hS:=hS) (h:= ?_)
     refine iV 2 (hS:=hS) (h:= ?_)
     refine iV 3 (hS:=hS) (h:= ?_)
     refine iV 4 (hS:=hS) (h:= ?_)
     refine iV 6 (hS:=hS) (h:= ?_)
     refine iV 7 (hS:=hS) (h:= ?_)
     refine iV 8 (hS:=hS) (h:= ?_)
     refine iV 9 (hS:=hS) (h:= ?_)
     refine iV 10 (hS:=hS) (h:= ?_)
     refine wm 5 (h:=fun K hK=> ?_)
     go_simp
     (with_reducible refine Sk.out.mono ?_)
     rintro e w3 ⟨rfl,o3,Qp,wD⟩
     have hs3:=Step.behind HT1.out.marks (Below.refl _ _).drew Qp
     have I9:=Lib.hid hs3
     have HT3:=Lib.hid wD
     have HRR:=Lib.hid (wD.KM a1 n1 c1 l1 a2 n2 c2 l2 (pG HA.out I2.vT hs3) g1 (by omega) (pG HB.out I2.vT hs3) g2 (by omega))
     have HZ3:=Lib.hid (hs3.same I2.vT K_.out)
     clear hs3 Qp wD z0 z1
     go_wp2_with fail
     refine hK.out _ _ (QY.out _ HZ3.out) (fun hS=> ?_)
     clear hK K
     try simp only[Act.put,List.setIfInBounds_toArray,List.set_cons_zero,List.set_cons_succ]
     refine wm 11 (h:=fun K hK=> ?_)
     go_simp
     (with_reducible refine HRR.out.mono ?_)
     rintro e w4 ⟨rfl,o4,hs4,rD⟩
     have FM:=Lib.hid (I9.out.trans hs4)
     have qm:=Lib.hid rD
     have XW:=Lib.hid (FM.out.same I2.vT K_.out)
     generalize (aY T l1 l2).1=va
     have hva:(va !=va)=false:=by simp
     clear hs4 rD
     go_wp2_with fail
     refine hK.out _ _ (QY.out _ XW.out) (fun hS=> ?_)
     clear hK K
     try simp only[Act.put,List.setIfInBounds_toArray,List.set_cons_zero,List.set_cons_succ]
     refine iV 12 (hS:=hS) (h:= ?_)
     refine iV 13 (hS:=hS) (h:= ?_)
     refine iV 14 (hS:=hS) (h:= ?_)
     refine iV 17 (hS:=hS) (h:= ?_)
     refine wm 15 (h:=fun K hK=> ?_)
     go_simp
     obtain⟨T4,Qq⟩:∃T4,T4=(aY T l1 l2).2:=⟨_,rfl⟩
     rw[←Qq]at qm
     clear Qq
     (with_reducible refine(yx qm.out.tr qm.out.wJ).mono ?_)
     rintro e w5 ⟨a5,n5,c5,rfl,hn5,Qb,hb5⟩
     have Qe:=Lib.hid Qb
     have iY:=Lib.hid hb5
     have tK:zb<w4.heap.size:=Nat.lt_of_lt_of_le K_.out.2 FM.out.keep.size
     have QV:Hid (∀u,Below w4.heap.size w4 u→u.cell? ⟨zb,0,none⟩=some (.slice a1 n1 c1)∧u.cell? ⟨zb,1,none⟩=some (.slice a2 n2 c2)):=fun u hb=>QY.out u ((hb.block zb tK).trans XW.out)
     clear Qb hb5
     go_wp2_with fail
     refine hK.out _ _ (QV.out _ iY.out) (fun hS=> ?_)
     clear hK K
     try simp only[Act.put,List.setIfInBounds_toArray,List.set_cons_zero,List.set_cons_succ]
     refine jX (S':=fun w'=>(w'.cell? ⟨zb,0,none⟩=some (.slice a1 n1 c1)∧w'.cell? ⟨zb,1,none⟩=some (.slice a2 n2 c2))∧(convert 39 9 (.slice a5 n5 c5)).run Tryz.prog w'= .ok (.string (strOf (gT T4))) w') (fun _ h=>h.1) _ _ _ _ ?_
     have IQ:=And.intro hS (jW (c:=c5) Qe.out)
     clear hS
     have hS:=IQ
     clear IQ
     refine iV 16 (hS:=hS) (h:= ?_)
     refine wm 18 (h:=fun K hK=> ?_)
     go_simp
     (with_reducible refine(Dj (W:=W) (qm.out.rt.grow iY.out) qm.out.vU).mono ?_)
     rintro e w6 ⟨a6,c6,rfl,hown6,hb6⟩
     have QZ:=Lib.hid (fI hown6)
     have qH:=Lib.hid (iY.out.trans (hb6.mono iY.out.size))
     have Z5:Hid ((convert 39 9 (.slice a5 n5 c5)).run Tryz.prog w6= .ok (.string (strOf (gT T4))) w6):=jW (c:=c5) (Qe.out.below hb6 (Nat.le_refl _))
     obtain⟨nv,Ke⟩:∃nv,nv=(gT T4).length:=⟨_,rfl⟩
     rw[←Ke]at QZ⊢
     clear hown6 hb6 Ke
     go_wp2_with fail
     refine hK.out _ _ (⟨QV.out _ qH.out,Z5.out⟩) (fun hS=> ?_)
     clear hK K
     try simp only[Act.put,List.setIfInBounds_toArray,List.set_cons_zero,List.set_cons_succ]
     refine jX (S':=fun w'=>((w'.cell? ⟨zb,0,none⟩=some (.slice a1 n1 c1)∧w'.cell? ⟨zb,1,none⟩=some (.slice a2 n2 c2))∧(convert 39 9 (.slice a5 n5 c5)).run Tryz.prog w'= .ok (.string (strOf (gT T4))) w')∧(convert 39 9 (.slice a6 nv c6)).run Tryz.prog w'= .ok (.string (strOf (gT T4))) w') (fun _ h=>h.1) _ _ _ _ ?_
     have IU:=And.intro hS (jW (c:=c6) QZ.out)
     clear hS
     have hS:=IU
     clear IU
     refine iV 19 (hS:=hS) (h:= ?_)
     refine iV 20 (hS:=hS) (h:= ?_)
     refine iV 21 (hS:=hS) (h:= ?_)
     refine wpAnyH_done (by kernel_rfl) ?_ _
     refine NoPanic.normal ?_
     clear hS
     have H6:Hid (Lv W t y lb w6):=⟨o4,T4,qm.out.grow qH.out,(nM.out.step I2.vT FM.out).grow qH.out⟩
     go_wp2_with fail
     go_roundw
     case rel=>exact⟨j+1,by go_num,by omega,H6.out⟩
     case measure=>simp[intOf];omega
    ·have hd:decide ((j:Int)<9)=false:=by simp;omega
     clear hP hT
     go_wp2_with fail
     go_ret
     exact⟨rfl,HT.out.marks.below⟩
end
def ND:List Nat:=[26,52,1,27,53,2,28,54,3,29,55,4,30,56,5,31,57,6,32,58,7,33,59,8,34,60,9,35,61,10,36,62,11,37,63,12,38,13,39,14,40,15,41,16,42,17,43,18,44,19,45,20,46,21,47,22,48,23,49,24,50,25,51]
def bM (c:UInt8) (i:Nat):Nm:=[c,UInt8.ofNat (97+i%26),UInt8.ofNat (97+i/26)]
def aJ (i:Nat):aH:=(0,⟨2,1,0,true,[],(ND.filter fun j=>decide (j≤i)).map fun j=>(bM 110 j,(j:Int))⟩)::(List.range i).map fun j:Nat=>((j:Int)+1,bq 1)
def aI (i:Nat):aH:=(0,⟨2,1,0,true,[],((ND.filter fun j=>decide (j≤i)).map fun j=>(bM 108 j,(1:Int)))++ND.map fun j=>(bM 110 j,(j:Int))⟩)::(1,⟨1,1+i,0,false,[],[]⟩)::(List.range 62).map fun j:Nat=>((j:Int)+2,bq 1)
theorem BS:aJ 0=jE:=by kernel_rfl
theorem BU:aI 0=aJ 63:=by kernel_rfl
set_option maxRecDepth 100000
theorem Z6:aL (aJ 0) [bM 110 1] 1=((1,0),aJ 1):=by kernel_rfl
theorem Z7:aL (aJ 1) [bM 110 2] 1=((2,0),aJ 2):=by kernel_rfl
theorem Z8:aL (aJ 2) [bM 110 3] 1=((3,0),aJ 3):=by kernel_rfl
theorem Z9:aL (aJ 3) [bM 110 4] 1=((4,0),aJ 4):=by kernel_rfl
theorem Z_:aL (aJ 4) [bM 110 5] 1=((5,0),aJ 5):=by kernel_rfl
theorem fm5:aL (aJ 5) [bM 110 6] 1=((6,0),aJ 6):=by kernel_rfl
theorem fm6:aL (aJ 6) [bM 110 7] 1=((7,0),aJ 7):=by kernel_rfl
theorem fm7:aL (aJ 7) [bM 110 8] 1=((8,0),aJ 8):=by kernel_rfl
theorem fm8:aL (aJ 8) [bM 110 9] 1=((9,0),aJ 9):=by kernel_rfl
theorem fm9:aL (aJ 9) [bM 110 10] 1=((10,0),aJ 10):=by kernel_rfl
theorem Uu:aL (aJ 10) [bM 110 11] 1=((11,0),aJ 11):=by kernel_rfl
theorem Uv:aL (aJ 11) [bM 110 12] 1=((12,0),aJ 12):=by kernel_rfl
theorem Uw:aL (aJ 12) [bM 110 13] 1=((13,0),aJ 13):=by kernel_rfl
theorem Ux:aL (aJ 13) [bM 110 14] 1=((14,0),aJ 14):=by kernel_rfl
theorem Uy:aL (aJ 14) [bM 110 15] 1=((15,0),aJ 15):=by kernel_rfl
theorem Uz:aL (aJ 15) [bM 110 16] 1=((16,0),aJ 16):=by kernel_rfl
theorem UA:aL (aJ 16) [bM 110 17] 1=((17,0),aJ 17):=by kernel_rfl
theorem UC:aL (aJ 17) [bM 110 18] 1=((18,0),aJ 18):=by kernel_rfl
theorem UD:aL (aJ 18) [bM 110 19] 1=((19,0),aJ 19):=by kernel_rfl
theorem UE:aL (aJ 19) [bM 110 20] 1=((20,0),aJ 20):=by kernel_rfl
theorem UF:aL (aJ 20) [bM 110 21] 1=((21,0),aJ 21):=by kernel_rfl
theorem UG:aL (aJ 21) [bM 110 22] 1=((22,0),aJ 22):=by kernel_rfl
theorem UH:aL (aJ 22) [bM 110 23] 1=((23,0),aJ 23):=by kernel_rfl
theorem UJ:aL (aJ 23) [bM 110 24] 1=((24,0),aJ 24):=by kernel_rfl
theorem UK:aL (aJ 24) [bM 110 25] 1=((25,0),aJ 25):=by kernel_rfl
theorem UL:aL (aJ 25) [bM 110 26] 1=((26,0),aJ 26):=by kernel_rfl
theorem UM:aL (aJ 26) [bM 110 27] 1=((27,0),aJ 27):=by kernel_rfl
theorem UN:aL (aJ 27) [bM 110 28] 1=((28,0),aJ 28):=by kernel_rfl
theorem UO:aL (aJ 28) [bM 110 29] 1=((29,0),aJ 29):=by kernel_rfl
theorem UQ:aL (aJ 29) [bM 110 30] 1=((30,0),aJ 30):=by kernel_rfl
theorem UR:aL (aJ 30) [bM 110 31] 1=((31,0),aJ 31):=by kernel_rfl
theorem UU:aL (aJ 31) [bM 110 32] 1=((32,0),aJ 32):=by kernel_rfl
theorem UW:aL (aJ 32) [bM 110 33] 1=((33,0),aJ 33):=by kernel_rfl
theorem UY:aL (aJ 33) [bM 110 34] 1=((34,0),aJ 34):=by kernel_rfl
theorem UZ:aL (aJ 34) [bM 110 35] 1=((35,0),aJ 35):=by kernel_rfl
theorem U0:aL (aJ 35) [bM 110 36] 1=((36,0),aJ 36):=by kernel_rfl
theorem U1:aL (aJ 36) [bM 110 37] 1=((37,0),aJ 37):=by kernel_rfl
theorem U2:aL (aJ 37) [bM 110 38] 1=((38,0),aJ 38):=by kernel_rfl
theorem U3:aL (aJ 38) [bM 110 39] 1=((39,0),aJ 39):=by kernel_rfl
theorem U4:aL (aJ 39) [bM 110 40] 1=((40,0),aJ 40):=by kernel_rfl
theorem U5:aL (aJ 40) [bM 110 41] 1=((41,0),aJ 41):=by kernel_rfl
theorem U6:aL (aJ 41) [bM 110 42] 1=((42,0),aJ 42):=by kernel_rfl
theorem U7:aL (aJ 42) [bM 110 43] 1=((43,0),aJ 43):=by kernel_rfl
theorem U8:aL (aJ 43) [bM 110 44] 1=((44,0),aJ 44):=by kernel_rfl
theorem U9:aL (aJ 44) [bM 110 45] 1=((45,0),aJ 45):=by kernel_rfl
theorem U_:aL (aJ 45) [bM 110 46] 1=((46,0),aJ 46):=by kernel_rfl
theorem Va:aL (aJ 46) [bM 110 47] 1=((47,0),aJ 47):=by kernel_rfl
theorem Vb:aL (aJ 47) [bM 110 48] 1=((48,0),aJ 48):=by kernel_rfl
theorem Vd:aL (aJ 48) [bM 110 49] 1=((49,0),aJ 49):=by kernel_rfl
theorem Ve:aL (aJ 49) [bM 110 50] 1=((50,0),aJ 50):=by kernel_rfl
theorem Vf:aL (aJ 50) [bM 110 51] 1=((51,0),aJ 51):=by kernel_rfl
theorem Vg:aL (aJ 51) [bM 110 52] 1=((52,0),aJ 52):=by kernel_rfl
theorem Vh:aL (aJ 52) [bM 110 53] 1=((53,0),aJ 53):=by kernel_rfl
theorem Vi:aL (aJ 53) [bM 110 54] 1=((54,0),aJ 54):=by kernel_rfl
theorem Vj:aL (aJ 54) [bM 110 55] 1=((55,0),aJ 55):=by kernel_rfl
theorem Vk:aL (aJ 55) [bM 110 56] 1=((56,0),aJ 56):=by kernel_rfl
theorem Vl:aL (aJ 56) [bM 110 57] 1=((57,0),aJ 57):=by kernel_rfl
theorem Vm:aL (aJ 57) [bM 110 58] 1=((58,0),aJ 58):=by kernel_rfl
theorem Vn:aL (aJ 58) [bM 110 59] 1=((59,0),aJ 59):=by kernel_rfl
theorem Vo:aL (aJ 59) [bM 110 60] 1=((60,0),aJ 60):=by kernel_rfl
theorem Vp:aL (aJ 60) [bM 110 61] 1=((61,0),aJ 61):=by kernel_rfl
theorem Vq:aL (aJ 61) [bM 110 62] 1=((62,0),aJ 62):=by kernel_rfl
theorem Vr:aL (aJ 62) [bM 110 63] 1=((63,0),aJ 63):=by kernel_rfl
theorem fl0:aO (aI 0) [bM 110 1] [bM 108 1]=(0,aI 1):=by kernel_rfl
theorem fl1:aO (aI 1) [bM 110 1] [bM 108 2]=(0,aI 2):=by kernel_rfl
theorem fl2:aO (aI 2) [bM 110 1] [bM 108 3]=(0,aI 3):=by kernel_rfl
theorem fl3:aO (aI 3) [bM 110 1] [bM 108 4]=(0,aI 4):=by kernel_rfl
theorem fl4:aO (aI 4) [bM 110 1] [bM 108 5]=(0,aI 5):=by kernel_rfl
theorem fl5:aO (aI 5) [bM 110 1] [bM 108 6]=(0,aI 6):=by kernel_rfl
theorem fl6:aO (aI 6) [bM 110 1] [bM 108 7]=(0,aI 7):=by kernel_rfl
theorem fl7:aO (aI 7) [bM 110 1] [bM 108 8]=(0,aI 8):=by kernel_rfl
theorem fl8:aO (aI 8) [bM 110 1] [bM 108 9]=(0,aI 9):=by kernel_rfl
theorem fl9:aO (aI 9) [bM 110 1] [bM 108 10]=(0,aI 10):=by kernel_rfl
theorem Vs:aO (aI 10) [bM 110 1] [bM 108 11]=(0,aI 11):=by kernel_rfl
theorem Vt:aO (aI 11) [bM 110 1] [bM 108 12]=(0,aI 12):=by kernel_rfl
theorem Vu:aO (aI 12) [bM 110 1] [bM 108 13]=(0,aI 13):=by kernel_rfl
theorem Vv:aO (aI 13) [bM 110 1] [bM 108 14]=(0,aI 14):=by kernel_rfl
theorem Vw:aO (aI 14) [bM 110 1] [bM 108 15]=(0,aI 15):=by kernel_rfl
theorem Vx:aO (aI 15) [bM 110 1] [bM 108 16]=(0,aI 16):=by kernel_rfl
theorem Vy:aO (aI 16) [bM 110 1] [bM 108 17]=(0,aI 17):=by kernel_rfl
theorem Vz:aO (aI 17) [bM 110 1] [bM 108 18]=(0,aI 18):=by kernel_rfl
theorem VA:aO (aI 18) [bM 110 1] [bM 108 19]=(0,aI 19):=by kernel_rfl
theorem VB:aO (aI 19) [bM 110 1] [bM 108 20]=(0,aI 20):=by kernel_rfl
theorem VD:aO (aI 20) [bM 110 1] [bM 108 21]=(0,aI 21):=by kernel_rfl
theorem VE:aO (aI 21) [bM 110 1] [bM 108 22]=(0,aI 22):=by kernel_rfl
theorem VF:aO (aI 22) [bM 110 1] [bM 108 23]=(0,aI 23):=by kernel_rfl
theorem VG:aO (aI 23) [bM 110 1] [bM 108 24]=(0,aI 24):=by kernel_rfl
theorem VH:aO (aI 24) [bM 110 1] [bM 108 25]=(0,aI 25):=by kernel_rfl
theorem VI:aO (aI 25) [bM 110 1] [bM 108 26]=(0,aI 26):=by kernel_rfl
theorem VJ:aO (aI 26) [bM 110 1] [bM 108 27]=(0,aI 27):=by kernel_rfl
theorem VK:aO (aI 27) [bM 110 1] [bM 108 28]=(0,aI 28):=by kernel_rfl
theorem VL:aO (aI 28) [bM 110 1] [bM 108 29]=(0,aI 29):=by kernel_rfl
theorem VN:aO (aI 29) [bM 110 1] [bM 108 30]=(0,aI 30):=by kernel_rfl
theorem VO:aO (aI 30) [bM 110 1] [bM 108 31]=(0,aI 31):=by kernel_rfl
theorem VP:aO (aI 31) [bM 110 1] [bM 108 32]=(0,aI 32):=by kernel_rfl
theorem VQ:aO (aI 32) [bM 110 1] [bM 108 33]=(0,aI 33):=by kernel_rfl
theorem VR:aO (aI 33) [bM 110 1] [bM 108 34]=(0,aI 34):=by kernel_rfl
theorem VT:aO (aI 34) [bM 110 1] [bM 108 35]=(0,aI 35):=by kernel_rfl
theorem VU:aO (aI 35) [bM 110 1] [bM 108 36]=(0,aI 36):=by kernel_rfl
theorem VW:aO (aI 36) [bM 110 1] [bM 108 37]=(0,aI 37):=by kernel_rfl
theorem VX:aO (aI 37) [bM 110 1] [bM 108 38]=(0,aI 38):=by kernel_rfl
theorem VY:aO (aI 38) [bM 110 1] [bM 108 39]=(0,aI 39):=by kernel_rfl
theorem VZ:aO (aI 39) [bM 110 1] [bM 108 40]=(0,aI 40):=by kernel_rfl
theorem V3:aO (aI 40) [bM 110 1] [bM 108 41]=(0,aI 41):=by kernel_rfl
theorem V4:aO (aI 41) [bM 110 1] [bM 108 42]=(0,aI 42):=by kernel_rfl
theorem V5:aO (aI 42) [bM 110 1] [bM 108 43]=(0,aI 43):=by kernel_rfl
theorem V6:aO (aI 43) [bM 110 1] [bM 108 44]=(0,aI 44):=by kernel_rfl
theorem V7:aO (aI 44) [bM 110 1] [bM 108 45]=(0,aI 45):=by kernel_rfl
theorem V8:aO (aI 45) [bM 110 1] [bM 108 46]=(0,aI 46):=by kernel_rfl
theorem V9:aO (aI 46) [bM 110 1] [bM 108 47]=(0,aI 47):=by kernel_rfl
theorem V_:aO (aI 47) [bM 110 1] [bM 108 48]=(0,aI 48):=by kernel_rfl
theorem Wd:aO (aI 48) [bM 110 1] [bM 108 49]=(0,aI 49):=by kernel_rfl
theorem Wh:aO (aI 49) [bM 110 1] [bM 108 50]=(0,aI 50):=by kernel_rfl
theorem Wi:aO (aI 50) [bM 110 1] [bM 108 51]=(0,aI 51):=by kernel_rfl
theorem Wj:aO (aI 51) [bM 110 1] [bM 108 52]=(0,aI 52):=by kernel_rfl
theorem Wm:aO (aI 52) [bM 110 1] [bM 108 53]=(0,aI 53):=by kernel_rfl
theorem Wn:aO (aI 53) [bM 110 1] [bM 108 54]=(0,aI 54):=by kernel_rfl
theorem Wo:aO (aI 54) [bM 110 1] [bM 108 55]=(0,aI 55):=by kernel_rfl
theorem Wp:aO (aI 55) [bM 110 1] [bM 108 56]=(0,aI 56):=by kernel_rfl
theorem Wq:aO (aI 56) [bM 110 1] [bM 108 57]=(0,aI 57):=by kernel_rfl
theorem Ws:aO (aI 57) [bM 110 1] [bM 108 58]=(0,aI 58):=by kernel_rfl
theorem Wt:aO (aI 58) [bM 110 1] [bM 108 59]=(0,aI 59):=by kernel_rfl
theorem Wu:aO (aI 59) [bM 110 1] [bM 108 60]=(0,aI 60):=by kernel_rfl
theorem Wv:aO (aI 60) [bM 110 1] [bM 108 61]=(0,aI 61):=by kernel_rfl
theorem Ww:aO (aI 61) [bM 110 1] [bM 108 62]=(0,aI 62):=by kernel_rfl
theorem Wx:aO (aI 62) [bM 110 1] [bM 108 63]=(0,aI 63):=by kernel_rfl
theorem EU (i:Nat) (hi:i<63):aL (aJ i) [bM 110 (i+1)] 1=(((i:Int)+1,0),aJ (i+1)):=by
 match i,hi with
 |0,_=>exact Z6
 |1,_=>exact Z7
 |2,_=>exact Z8
 |3,_=>exact Z9
 |4,_=>exact Z_
 |5,_=>exact fm5
 |6,_=>exact fm6
 |7,_=>exact fm7
 |8,_=>exact fm8
 |9,_=>exact fm9
 |10,_=>exact Uu
 |11,_=>exact Uv
 |12,_=>exact Uw
 |13,_=>exact Ux
 |14,_=>exact Uy
 |15,_=>exact Uz
 |16,_=>exact UA
 |17,_=>exact UC
 |18,_=>exact UD
 |19,_=>exact UE
 |20,_=>exact UF
 |21,_=>exact UG
 |22,_=>exact UH
 |23,_=>exact UJ
 |24,_=>exact UK
 |25,_=>exact UL
 |26,_=>exact UM
 |27,_=>exact UN
 |28,_=>exact UO
 |29,_=>exact UQ
 |30,_=>exact UR
 |31,_=>exact UU
 |32,_=>exact UW
 |33,_=>exact UY
 |34,_=>exact UZ
 |35,_=>exact U0
 |36,_=>exact U1
 |37,_=>exact U2
 |38,_=>exact U3
 |39,_=>exact U4
 |40,_=>exact U5
 |41,_=>exact U6
 |42,_=>exact U7
 |43,_=>exact U8
 |44,_=>exact U9
 |45,_=>exact U_
 |46,_=>exact Va
 |47,_=>exact Vb
 |48,_=>exact Vd
 |49,_=>exact Ve
 |50,_=>exact Vf
 |51,_=>exact Vg
 |52,_=>exact Vh
 |53,_=>exact Vi
 |54,_=>exact Vj
 |55,_=>exact Vk
 |56,_=>exact Vl
 |57,_=>exact Vm
 |58,_=>exact Vn
 |59,_=>exact Vo
 |60,_=>exact Vp
 |61,_=>exact Vq
 |62,_=>exact Vr
 |n+63,h=>exact absurd h (by omega)
theorem EW (i:Nat) (hi:i<63):aO (aI i) [bM 110 1] [bM 108 (i+1)]=(0,aI (i+1)):=by
 match i,hi with
 |0,_=>exact fl0
 |1,_=>exact fl1
 |2,_=>exact fl2
 |3,_=>exact fl3
 |4,_=>exact fl4
 |5,_=>exact fl5
 |6,_=>exact fl6
 |7,_=>exact fl7
 |8,_=>exact fl8
 |9,_=>exact fl9
 |10,_=>exact Vs
 |11,_=>exact Vt
 |12,_=>exact Vu
 |13,_=>exact Vv
 |14,_=>exact Vw
 |15,_=>exact Vx
 |16,_=>exact Vy
 |17,_=>exact Vz
 |18,_=>exact VA
 |19,_=>exact VB
 |20,_=>exact VD
 |21,_=>exact VE
 |22,_=>exact VF
 |23,_=>exact VG
 |24,_=>exact VH
 |25,_=>exact VI
 |26,_=>exact VJ
 |27,_=>exact VK
 |28,_=>exact VL
 |29,_=>exact VN
 |30,_=>exact VO
 |31,_=>exact VP
 |32,_=>exact VQ
 |33,_=>exact VR
 |34,_=>exact VT
 |35,_=>exact VU
 |36,_=>exact VW
 |37,_=>exact VX
 |38,_=>exact VY
 |39,_=>exact VZ
 |40,_=>exact V3
 |41,_=>exact V4
 |42,_=>exact V5
 |43,_=>exact V6
 |44,_=>exact V7
 |45,_=>exact V8
 |46,_=>exact V9
 |47,_=>exact V_
 |48,_=>exact Wd
 |49,_=>exact Wh
 |50,_=>exact Wi
 |51,_=>exact Wj
 |52,_=>exact Wm
 |53,_=>exact Wn
 |54,_=>exact Wo
 |55,_=>exact Wp
 |56,_=>exact Wq
 |57,_=>exact Ws
 |58,_=>exact Wt
 |59,_=>exact Wu
 |60,_=>exact Wv
 |61,_=>exact Ww
 |62,_=>exact Wx
 |n+63,h=>exact absurd h (by omega)
theorem EX:aL (aJ 63) [[120]] 2=((0,4),aJ 63):=by kernel_rfl
theorem EY:aO (aI 63) [bM 110 1] [[121]]=(4,aI 63):=by kernel_rfl
def Wy:aH:=(aL jE [[97]] 2).2
def Wz:aH:=(aL Wy [[97],[98]] 1).2
def Qr:aH:=(aO Wz [[97],[98]] [[99]]).2
theorem NG:(aL jE [[97]] 2).1=(1,0):=by kernel_rfl
theorem NH:(aL Wy [[97],[98]] 1).1=(2,0):=by kernel_rfl
theorem NI:(aO Wz [[97],[98]] [[99]]).1=0:=by kernel_rfl
theorem IV:jy Qr 2= .agg #[.int .i64 2, .int .i64 1, .int .i64 2, .int .i64 0, .int .u64 0, .bool false]:=by kernel_rfl
theorem IW:(aj 2 Qr).isSome=true:=by kernel_rfl
theorem KN:Qr.length=3:=by kernel_rfl
set_option maxRecDepth 100000 in
set_option maxHeartbeats 4000000 in
theorem zT (w:World):Calls Tryz.prog 35 #[] w fun e w'=>e= .returned (.bool true)∧Below w.heap.size w w':=by
 go_enter Tryz.func35,Tryz.ntmps35
 go_wp2_with fail
 (with_reducible refine(F9 w w (Below.refl _ _)).mono ?_)
 rintro e w1 ⟨p,rfl,hT1,hb1⟩
 have DV:=Lib.hid (tY (hT1.grow (wall w1 (.cells #[.string ⟨#[97]⟩] 9))) (some ⟨w1.heap.size,0,none⟩) 1 1 [[97]] 2 (jZ (w:=w1) (vs:=[.string ⟨#[97]⟩]) 9 rfl rfl (by simp) (by simp)) (Nat.le_refl _) (by omega))
 rw[NG]at DV
 clear hT1 hb1
 go_wp2_with fail
 (with_reducible refine DV.out.mono ?_)
 rintro e w2 ⟨rfl,KW,hK2⟩
 have F7:=Lib.hid (tY (T:=Wy) (KW.grow (wall w2 (.cells #[.string ⟨#[97]⟩, .string ⟨#[98]⟩] 9))) (some ⟨w2.heap.size,0,none⟩) 2 2 [[97],[98]] 1 (jZ (w:=w2) (vs:=[.string ⟨#[97]⟩, .string ⟨#[98]⟩]) 9 rfl rfl (by simp) (by simp)) (Nat.le_refl _) (by omega))
 rw[NH]at F7
 clear KW hK2 DV
 go_wp2_with fail
 (with_reducible refine F7.out.mono ?_)
 rintro e w3 ⟨rfl,wD,hK3⟩
 have KX:=Lib.hid (Cv (T:=Wz) (wD.grow ((wall w3 (.cells #[.string ⟨#[97]⟩, .string ⟨#[98]⟩] 9)).alloc (by simp) (.cells #[.string ⟨#[99]⟩] 9))) (some ⟨w3.heap.size,0,none⟩) 2 2 [[97],[98]] (some ⟨w3.heap.size+1,0,none⟩) 1 1 [[99]]
  ((jZ (w:=w3) (vs:=[.string ⟨#[97]⟩, .string ⟨#[98]⟩]) 9 rfl rfl (by simp) (by simp)).below (wall _ _) (Nat.le_refl _))
  (by
   have:=jZ (w:=w3.alloc (.cells #[.string ⟨#[97]⟩, .string ⟨#[98]⟩] 9)) (vs:=[.string ⟨#[99]⟩]) (ls:=[[99]]) 9 rfl rfl (by simp) (by simp)
   rw[World.size_alloc]at this
   exact this) (Nat.le_refl _) (by omega))
 rw[NI]at KX
 clear wD hK3 F7
 go_wp2_with fail
 (with_reducible refine KX.out.mono ?_)
 rintro e w4 ⟨rfl,rD,hK4⟩
 have HN:=Lib.hid (JE (T:=Qr) rD 2 (by rfl))
 rw[IV,IW]at HN
 have qm:=Lib.hid rD
 clear rD hK4 KX
 go_wp2_with fail
 (with_reducible refine HN.out.mono ?_)
 rintro e w5 ⟨rfl,hb5⟩
 have HC:=Lib.hid (fun w6 (hb:Below w4.heap.size w4 w6)=>za (T:=Qr) (qm.out.grow hb))
 rw[KN]at HC
 have iY:=Lib.hid hb5
 clear hb5 HN
 go_wp2_with fail
 (with_reducible refine(HC.out _ ?_).mono ?_)
 ·exact iY.out.trans ((wall _ _).mono iY.out.size)
 rintro e w6 ⟨rfl,rfl⟩
 go_wp2_with fail
 go_ret
 exact⟨rfl,qm.out.below.trans ((iY.out.trans ((wall _ _).mono iY.out.size)).mono qm.out.below.size)⟩
end Go.Proofs.YtohpcppeajijnaaGreat
