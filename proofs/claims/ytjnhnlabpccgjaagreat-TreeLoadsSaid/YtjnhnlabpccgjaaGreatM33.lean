/- tree: links. tree: right. tree: Load. permafrostbook.Roomy of bytes. -/
import Derived.Test.YtjnhnlabpccgjaaGreatM32
import Derived.Test.YtjnhnlabpccgjaaGreatM13
import Derived.Test.YtjnhnlabpccgjaaGreatM02
import Derived.Deep.QuietTactic
import Derived.BigQuiet
import Derived.Test.YtjnhnlabpccgjaaGreatM10
namespace Go.Proofs.YtjnhnlabpccgjaaGreat
open Go.ChangeShapes Go.WideShapes Go.ChangeAt Go.RowKit
set_option linter.unusedVariables false
set_option linter.unusedSimpArgs false
def zU (C:oJ):List (Int×Value):=C.map fun p=>(p.1,(.int .i64 (p.2:Int):Value))
theorem NJ (C:oJ) (j:Int):ah j (zU C)=(ah j C).map fun n:Nat=>(.int .i64 (n:Int):Value):=C8 (fun n:Nat=>(.int .i64 (n:Int):Value)) j C
theorem zO (C:oJ) (j:Int):(ah j (zU C)).getD (.int .i64 0)= .int .i64 (iK C j:Int):=by
 rw[NJ]
 unfold iK
 cases ah j C<;>rfl
theorem Qf (C:oJ) (k:Int):bZ gH k (.int .i64 ((iK C k:Int)+1):Value) (zU C)=zU (lH C k):=by
 unfold zU lH
 rw[KV gH (fun n:Nat=>(.int .i64 (n:Int):Value)) k (iK C k+1) C]
 rfl
theorem Qg (C:oJ):(zU C).length=C.length:=List.length_map _
def iA (T:aF) (C:oJ) (n:Nat) (id:Int) (cb:Nat) (w:World) (e:Ending) (w':World):Prop:=
 Keeps (fun b=>b=cb) w w'∧∃r:Bool,e= .returned (.bool r)∧(r=true↔gG T C n id)∧(r=true→∃C',aI gH C'∧(∀j,iK C' j=iK C j+(jW T n id).count j)∧Ah T C'≤Ah T C+(aJ T id).length∧C'.length≤sm C'∧MapAt aV w' cb (zU C'))
theorem iA.zP {T:aF} {C:oJ} {n:Nat} {id:Int} {cb:Nat} {w w':World} (hk:Keeps (fun b=>b=cb) w w') (h:¬gG T C n id):iA T C n id cb w (.returned (.bool false)) w':=
 ⟨hk,false,rfl,⟨fun h'=>(by cases h'),fun h'=>absurd h' h⟩,fun h'=>(by cases h')⟩
def Vv (T:aF) (C:oJ) (n:Nat) (id:Int) (x:bA) (w:World) (T9 r cb:Nat) (wr:World):Prop:=
 ∃(left:Nm→Bool) (cnt:Nat) (C':oJ),dI cK wr T9 r (bL x) left cnt∧jV T (n-1) C (doneN left x.names) C'∧(n=0→doneN left x.names=[])∧MapAt aV wr cb (zU C')∧Ah T C'≤Ah T C+(doneN left x.names).length∧C'.length≤sm C'∧Keeps (fun b=>b=cb) w wr
theorem Qh {C:oJ} (h:aI gH C) (hl:C.length≤sm C) (k:Int):(lH C k).length≤sm (lH C k):=by
 rw[GU h]
 unfold lH bZ
 rw[qw]
 have:(bB k C).length≤C.length:=List.length_filter_le _ _
 omega
theorem NK (left:Nm→Bool) (l:List (Nm×Int)):(doneN left l).length≤l.length:=List.length_filter_le _ _
section
variable {g:Nat→Own} {D:Nat→Prop} {p mb:Nat} {ib nb:Int→Nat} {T:aF}
set_option maxRecDepth 100000 in
set_option maxHeartbeats 16000000 in
theorem zQ (n:Nat) (oP:n≤8) (id:Int) (x:bA) (C:oJ) (cb:Nat) (w:World) (h:aH g D w p mb ib nb T) (hcb:g cb= .none∧¬D cb) (hcw:cb<w.heap.size) (hP:qX T) (hx:ah id T=some x) (hk:x.kind=2)
  (hM:MapAt aV w cb (zU C)) (hS:aI gH C) (hCl:C.length≤sm C) (Kw:Ah T C+x.names.length≤1000000000000)
  (hrec:∀m,n=m+1→∀e∈x.names,bf T e.2=2→∀w1 C1,Keeps (fun b=>b=cb) w w1→MapAt aV w1 cb (zU C1)→aI gH C1→C1.length≤sm C1→Ah T C1+(aJ T e.2).length≤1000000000000→Calls Tryz.prog 121 #[ptr p, .int .i64 e.2, .int .i64 (8-(m:Int)), .map (some cb)] w1 (iA T C1 m e.2 cb w1)):
  Calls Tryz.prog 121 #[ptr p, .int .i64 id, .int .i64 (8-(n:Int)), .map (some cb)] w (iA T C n id cb w):=by
 obtain⟨hc0,hpw,hmw⟩:=h.cell
 have V_:=hP.get hx
 have kI:=V_.ok.id
 have hok:aV.ok id:=lC kI.1 (by unfold wh at kI;dsimp only at kI;omega)
 obtain⟨c0,c1,c2,c3,c4,c5,c7,hiw⟩:=(h.item id x hx).cell
 have hget:ah id (T.map fun q=>(q.1,ptr (ib q.1)))=some (ptr (ib id)):=by rw[dh,hx];rfl
 have HG:=Lib.hid hget
 have fE:=Lib.hid h.map
 have HH:=Lib.hid h
 have Yx:=Lib.hid hrec
 have HPI:=Lib.hid V_
 have HX:=Lib.hid hx
 have HP:=Lib.hid hP
 have PL:=Lib.hid hM
 have HSC:=Lib.hid hS
 have FZ:=Lib.hid hCl
 have Yy:=Lib.hid Kw
 have Vd:=Lib.hid hcb
 have hnn:aJ T id=x.names:=bT hx
 have nV:=Lib.hid hnn
 have e2:fD x (nb id)= .map (some (nb id)):=if_pos hk
 rw[e2]at c7
 have HN:=Lib.hid ((h.item id x hx).names hk)
 have hbw:=HN.out.lt
 have htn:=h.kG id x hx hk
 have Yz:=h.je
 have htp:=h.oM
 have hne1:cb≠nb id:=fun e=>by rw[←e,hcb.1]at htn;cases htn
 have hne2:cb≠mb:=fun e=>by rw[←e,hcb.1]at Yz;cases Yz
 have hne3:cb≠p:=fun e=>by rw[←e,hcb.1]at htp;cases htp
 have BZ:=Lib.hid hk
 have YA:=Lib.hid (V_.sorted.apart nk)
 clear hget hrec h hk e2 V_ kI hP hM hS hCl Kw hcb hnn htn Yz htp hx
 go_enter Tryz.func121,Tryz.ntmps121
 go_wp2_with (first|(at_lookup;refine aK aV rfl _ _ 104 107 rfl Tryz.underlying104 (Tryz.aT _) rfl fE.out id rfl hok ?_;rw[HG.out])|(at_range;refine jZ cK rfl _ 110 3 rfl Tryz.underlying110 rfl HN.out ?_;intro w0 hR0 hB0 hs0))
 go_frame
 go_loopw [10,11,12] (fun _ _ _ wr=>Vv T C n id x w (nb id) w.heap.size cb wr) (fun _ _ _ wr=>wr.rangeLeft (nb id) w.heap.size)
 case atStart=>
  have hnil:doneN (fun k=>(ah k (bL x)).isSome) x.names=[]:=yD fun e he=>by
   rw[dA,aL nk HPI.out.sorted he];rfl
  refine⟨_,_,C,hR0,by rw[hnil];exact jV.nil HSC.out,fun _=>hnil,PL.out.kept (hB0.block _ hcw),by rw[hnil];exact Nat.le_refl _,FZ.out,(Keeps.below hB0).mono fun z hz hz'=>by omega⟩
 case round=>
  obtain⟨left,cnt,C1,hR,hD,hD0,hM1,hps,hl1,hK⟩:=hrel
  have HR:=Lib.hid hR
  have HD:=Lib.hid hD
  have HD0:=Lib.hid hD0
  have J_:=Lib.hid hM1
  have RN:=Lib.hid hps
  have Bn:=Lib.hid hl1
  have HK:=Lib.hid hK
  clear hR hD hD0 hM1 hps hl1 hK
  go_wp2_with (first|(at_next;refine lg cK rfl _ rfl rfl HR.out ?_ ?_))
  ·intro hdone
   have zS:=Lib.hid hdone
   clear hdone
   go_wp2_with fail
   go_ret
   have hall:doneN left x.names=x.names:=AX zS.out
   have hd:=HD.out
   rw[hall]at hd
   refine⟨HK.out,true,rfl,?_⟩
   cases n with
   |zero=>
    have hnil:=HD0.out rfl
    rw[hall]at hnil
    have hnm:aJ T id=[]:=nV.out.trans hnil
    refine⟨⟨fun _=>⟨hnm,fun k hk=>(by unfold jW at hk;cases hk)⟩,fun _=>rfl⟩,fun _=>⟨C1,hd.sorted,fun j=> ?_,?_,Bn.out,J_.out⟩⟩
    ·rw[hd.cnt j,hnil];rfl
    ·have:=RN.out
     rw[hall,hnil]at this
     exact Nat.le_trans this (Nat.le_add_right _ _)
   |succ n=>
    rw[←nV.out]at hd
    have hfin:=hd.all
    refine⟨⟨fun _=>hfin.1,fun _=>rfl⟩,fun _=>⟨C1,hd.sorted,hfin.2,?_,Bn.out,J_.out⟩⟩
    have:=RN.out
    rw[hall,←nV.out]at this
    exact this
  ·intro k v w3 cnt1 LB hleft hg2 mQ hlt hK1 hs1 hen
   rw[dA]at hg2
   cases hk2:ah k x.names with
   |none=>rw[hk2]at hg2;cases hg2
   |some j=>
    rw[hk2]at hg2
    cases hg2
    have hmem:=bq hk2
    have hjb:=HPI.out.ids _ hmem
    have ql:aV.ok j:=lC hjb.1 (by have:=hjb.2;dsimp only at this;omega)
    have hK3:Keeps (fun b=>b=cb) w w3:=HK.out.trans hK1 fun z hz (e:z=w.heap.size)=>by omega
    have hA3:=HH.out.keeps hK3 fun z hz (e:z=cb)=>by
     subst e
     rcases hz with hz|hz
     ·exact hz Vd.out.1
     ·exact Vd.out.2 hz
    obtain⟨hc3,hpw3,hmw3⟩:=hA3.cell
    have BN:=Lib.hid hA3.map
    have KH:Hid (MapAt aV w3 cb (zU C1)):=J_.out.kept (hK1.block _ (by have:=J_.out.lt;omega) (fun(e:cb=w.heap.size)=>by omega))
    have QZ:(k,j)∈aJ T id:=by rw[nV.out];exact hmem
    have lW:=Lib.hid QZ
    have AJ:=Lib.hid hlt
    have Od:=Lib.hid hleft
    have HR1:=Lib.hid mQ
    have QW:=Lib.hid hK3
    have DV:=Lib.hid hmem
    have hrw:=mQ.lt
    have e3:cK.val k= .string (strOf k):=rfl
    rw[e3]at hen⊢
    clear e3 hlt hleft mQ hK3 hmem QZ hk2 hjb
    cases hy:ah j T with
    |none=>
     have rD:Hid (ah j (T.map fun q=>(q.1,ptr (ib q.1)))=none):=by show _=_;rw[dh,hy];rfl
     have HF:Hid (¬gG T C n id):=by
      cases n with
      |zero=>exact wC lW.out
      |succ m=>exact EW lW.out (fun hh=>by have h9:=hh.1;dsimp only at h9;rw[hy]at h9;cases h9)
     clear hy
     go_wp2_with (at_lookup;refine aG aV rfl _ _ 104 107 rfl Tryz.underlying104 (Tryz.aT _) rfl BN.out j rfl ql ?_;rw[rD.out])
     go_ret
     exact iA.zP QW.out HF.out
    |some y=>
     have rD:Hid (ah j (T.map fun q=>(q.1,ptr (ib q.1)))=some (ptr (ib j))):=by show _=_;rw[dh,hy];rfl
     obtain⟨-,y1,-,-,-,-,-,hyw⟩:=(hA3.item j y hy).cell
     have HY:=Lib.hid hy
     clear hy hA3
     by_cases hj0:j=0
     ·have HF:Hid (¬gG T C n id):=by
       cases n with
       |zero=>exact wC lW.out
       |succ m=>exact EW lW.out (fun hh=>hh.2 hj0)
      have d1:(j==0)=true:=by simpa using hj0
      clear hj0
      go_wp2_with (at_lookup;refine aG aV rfl _ _ 104 107 rfl Tryz.underlying104 (Tryz.aT _) rfl BN.out j rfl ql ?_;rw[rD.out])
      go_ret
      exact iA.zP QW.out HF.out
     ·have d1:(j==0)=false:=by simpa using hj0
      have HJ0:=Lib.hid hj0
      clear hj0
      by_cases hn0:n=0
      ·have HF:Hid (¬gG T C n id):=by
        subst hn0
        exact wC lW.out
       have d2:((8-(n:Int))==8)=true:=by rw[hn0];rfl
       clear hn0
       go_wp2_with (at_lookup;refine aG aV rfl _ _ 104 107 rfl Tryz.underlying104 (Tryz.aT _) rfl BN.out j rfl ql ?_;rw[rD.out])
       go_ret
       exact iA.zP QW.out HF.out
      ·have d2:((8-(n:Int))==8)=false:=beq_eq_false_iff_ne.2 (by omega)
       obtain⟨m,hm⟩:∃m,n=m+1:=⟨n-1,by omega⟩
       have iE:=Lib.hid hm
       have hsum:IntKind.i64.wrap (8-(n:Int)+1)=8-(m:Int):=by rw[IntWalk.i64_in _ (by omega)];omega
       have Wd:Hid (jV T m C (doneN left x.names) C1):=by
        have:=HD.out
        rw[show n-1=m by omega]at this
        exact this
       clear hn0 hm
       have hd1:=pq YA.out DV.out Od.out
       have hdl:=hd1.length_eq
       rw[List.length_append,List.length_singleton]at hdl
       have RV:=NK (fun z=>left z&& !decide (z=k)) x.names
       have DU:=Lib.hid hd1
       have hps:=RN.out
       have Kw:=Yy.out
       obtain⟨cN,Fg⟩:∃cN,cN=iK C1 j:=⟨_,rfl⟩
       have hcs:=P7 HD.out.sorted j
       rw[←Fg]at hcs
       have hpp:sm C1≤Ah T C1:=by unfold Ah;omega
       have YB:Hid ((ah j (zU C1)).getD (.int .i64 0)= .int .i64 (cN:Int)):=by show _=_;rw[zO,←Fg]
       have Ky:Hid (∀w',MapAt aV w' cb (bZ aV.lt j (.int .i64 ((cN:Int)+1)) (zU C1))→MapAt aV w' cb (zU (lH C1 j))):=fun w' hm=>by
        have e9:bZ aV.lt j (.int .i64 ((cN:Int)+1)) (zU C1)=zU (lH C1 j):=by rw[Fg];exact Qf C1 j
        rw[e9]at hm
        exact hm
       have SY:Hid ((ah j (zU (lH C1 j))).getD (.int .i64 0)= .int .i64 ((cN:Int)+1)):=by show _=_;rw[zO,jE,if_pos rfl,←Fg];rfl
       have HLEN:Hid ((zU C1).length<maxLen):=by
        show _<_
        rw[Qg]
        have:=Bn.out
        unfold maxLen
        omega
       have Vw:=Lib.hid (Qh HD.out.sorted Bn.out j)
       have e1:IntKind.i64.wrap ((cN:Int)+1)=(cN:Int)+1:=IntWalk.i64_in _ (by omega)
       have V4:=Lib.hid Fg
       have YC:Hid (∀w4,w3.mapTurned w4 cb→w4.cell? ⟨ib j,1,none⟩=some (.int .i64 y.kind)):=fun w4 hT=>by
        have hgi:=HH.out.mK j y HY.out
        have hne:ib j≠cb:=fun e=>by rw[e,Vd.out.1]at hgi;cases hgi
        exact(World.cell?_of_block (w:=w3) (w':=w4) (a:=⟨ib j,1,none⟩) (dG hT _ hyw hne)).trans y1
       have xu:Hid (∀w4,w3.mapTurned w4 cb→Keeps (fun b=>b=cb) w w4∧dI cK w4 (nb id) w.heap.size (bL x) (fun z=>left z&& !decide (z=k)) cnt1):=fun w4 hT=>
        ⟨QW.out.trans (Keeps.turned hT) fun z _ hz=>hz,HR1.out.kept (dG hT _ hrw.1 (Ne.symm hne1)) (dG hT _ hrw.2.1 (by omega))⟩
       clear Fg hcs hpp hd1
       by_cases hkd:y.kind=2
       ·have g1:(y.kind==2)=true:=by simpa using hkd
        have hkj:bf T j=2:=by rw[aY HY.out];exact hkd
        by_cases hc0:cN=0
        ·have dgt:decide ((1:Int)<(cN:Int)+1)=false:=by simp;omega
         have hzc:iK C1 j=0:=by rw[←V4.out];exact hc0
         have hpd:=P9 (T:=T) HD.out.sorted (bq HY.out) hkd hzc
         have hnl:(aJ T j).length≤65535:=by rw[bT HY.out];exact(HP.out.get HY.out).few
         have HQ:Hid (∀w4,w3.mapTurned w4 cb→MapAt aV w4 cb (zU (lH C1 j))→Calls Tryz.prog 121 #[ptr p, .int .i64 j, .int .i64 (8-(m:Int)), .map (some cb)] w4 (iA T (lH C1 j) m j cb w4)):=fun w4 hT hM=>Yx.out m iE.out (k,j) DV.out hkj w4 _ (xu.out w4 hT).1 hM (zK HD.out.sorted j) Vw.out (by dsimp only;omega)
         have YD:=Lib.hid (And.intro hzc hkj)
         have HPD:=Lib.hid (And.intro hpd hnl)
         clear hkd hkj hc0 hzc hpd hnl
         go_wp2_with (first|(at_lookup;refine aG aV rfl _ _ 104 107 rfl Tryz.underlying104 (Tryz.aT _) rfl BN.out j rfl ql ?_;rw[rD.out])|(at_lookup;refine aK aV rfl _ _ 177 3 rfl Tryz.underlying177 (Tryz.dL _) rfl KH.out j rfl ql ?_;rw[YB.out])|(at_mapUpdate;refine gM aV rfl _ _ _ 177 3 rfl Tryz.underlying177 rfl KH.out HLEN.out j (.int .i64 ((cN:Int)+1)) rfl rfl ql ?_;intro w4 zR qB;have Av:=Lib.hid (Ky.out _ zR);have wH:=Lib.hid qB;have hk4:=YC.out w4 qB;clear zR qB)|(at_lookup;refine aK aV rfl _ _ 177 3 rfl Tryz.underlying177 (Tryz.dL _) rfl Av.out j rfl ql ?_;rw[SY.out]))
         (with_reducible refine(HQ.out _ wH.out Av.out).mono ?_)
         rintro e w5 ⟨tJ,r,rfl,hiff,S9⟩
         have Fp:=Lib.hid (xu.out _ wH.out)
         have Jg:=Lib.hid tJ
         cases r with
         |false=>
          have HF:Hid (¬gG T C n id):=by
           have h9:=NC (C:=C) (e:=(k,j)) (by rw[nV.out];exact YA.out) lW.out Od.out (by rw[nV.out];exact Wd.out) YD.out.2 (fun hh=>by have:=hiff.2 hh;cases this)
           rw[←iE.out]at h9
           exact h9
          clear hiff S9 tJ
          go_wp2_with fail
          go_ret
          exact iA.zP (Fp.out.1.trans Jg.out fun z _ hz=>hz) HF.out
         |true=>
          obtain⟨C2,hs2,hc2,hp2,hl2,hm2⟩:=S9 rfl
          have HD2:Hid (jV T m C (doneN (fun z=>left z&& !decide (z=k)) x.names) C2):=(Wd.out.dir (e:=(k,j)) (by dsimp only;rw[HY.out];rfl) HJ0.out YD.out.2 YD.out.1 hs2 hc2 (hiff.1 rfl)).perm DU.out
          have Tx:Hid (Ah T C2≤Ah T C+(doneN (fun z=>left z&& !decide (z=k)) x.names).length):=by
           have h8:=HPD.out
           show _≤_
           omega
          have HL2:=Lib.hid hl2
          have FK:=Lib.hid hm2
          clear hs2 hc2 hp2 hl2 hm2 hiff S9 tJ
          go_wp2_with fail
          go_roundw
          case rel=>exact⟨_,cnt1,C2,Fp.out.2.kept (Jg.out.block _ Fp.out.2.lt.1 (Ne.symm hne1)) (Jg.out.block _ Fp.out.2.lt.2.1 (by omega)),by rw[show n-1=m by have:=iE.out;omega];exact HD2.out,fun h0=>by have:=iE.out;omega,FK.out,Tx.out,HL2.out,Fp.out.1.trans Jg.out fun z _ hz=>hz⟩
          case measure=>
           have h4:=Fp.out.2.kept (w':=w5) (Jg.out.block _ Fp.out.2.lt.1 (Ne.symm hne1)) (Jg.out.block _ Fp.out.2.lt.2.1 (by omega))
           rw[h4.measure,HR.out.measure]
           exact AJ.out
        ·have dgt:decide ((1:Int)<(cN:Int)+1)=true:=by simp;omega
         have HF:Hid (¬gG T C n id):=by
          have h9:=NA (C:=C) (n:=m) (e:=(k,j)) (by rw[nV.out];exact YA.out) lW.out Od.out (by rw[nV.out];exact Wd.out) hkj (by dsimp only;rw[jE,if_pos rfl,←V4.out];omega)
          rw[←iE.out]at h9
          exact h9
         clear hkd hkj hc0
         go_wp2_with (first|(at_lookup;refine aG aV rfl _ _ 104 107 rfl Tryz.underlying104 (Tryz.aT _) rfl BN.out j rfl ql ?_;rw[rD.out])|(at_lookup;refine aK aV rfl _ _ 177 3 rfl Tryz.underlying177 (Tryz.dL _) rfl KH.out j rfl ql ?_;rw[YB.out])|(at_mapUpdate;refine gM aV rfl _ _ _ 177 3 rfl Tryz.underlying177 rfl KH.out HLEN.out j (.int .i64 ((cN:Int)+1)) rfl rfl ql ?_;intro w4 zR qB;have Av:=Lib.hid (Ky.out _ zR);have wH:=Lib.hid qB;have hk4:=YC.out w4 qB;clear zR qB)|(at_lookup;refine aK aV rfl _ _ 177 3 rfl Tryz.underlying177 (Tryz.dL _) rfl Av.out j rfl ql ?_;rw[SY.out]))
         go_ret
         exact iA.zP (xu.out _ wH.out).1 HF.out
       ·have g1:(y.kind==2)=false:=by simpa using hkd
        have HD2:Hid (jV T m C (doneN (fun z=>left z&& !decide (z=k)) x.names) (lH C1 j)):=(Wd.out.file (e:=(k,j)) (by dsimp only;rw[HY.out];rfl) HJ0.out (by dsimp only;rw[aY HY.out];exact hkd)).perm DU.out
        have Tx:Hid (Ah T (lH C1 j)≤Ah T C+(doneN (fun z=>left z&& !decide (z=k)) x.names).length):=by
         have h8:=P8 (T:=T) HD.out.sorted j
         show _≤_
         omega
        clear hkd
        go_wp2_with (first|(at_lookup;refine aG aV rfl _ _ 104 107 rfl Tryz.underlying104 (Tryz.aT _) rfl BN.out j rfl ql ?_;rw[rD.out])|(at_lookup;refine aK aV rfl _ _ 177 3 rfl Tryz.underlying177 (Tryz.dL _) rfl KH.out j rfl ql ?_;rw[YB.out])|(at_mapUpdate;refine gM aV rfl _ _ _ 177 3 rfl Tryz.underlying177 rfl KH.out HLEN.out j (.int .i64 ((cN:Int)+1)) rfl rfl ql ?_;intro w4 zR qB;have Av:=Lib.hid (Ky.out _ zR);have wH:=Lib.hid qB;have hk4:=YC.out w4 qB;clear zR qB)|(at_lookup;refine aK aV rfl _ _ 177 3 rfl Tryz.underlying177 (Tryz.dL _) rfl Av.out j rfl ql ?_;rw[SY.out]))
        have Fp:=Lib.hid (xu.out _ wH.out)
        go_roundw
        case rel=>exact⟨_,cnt1,_,Fp.out.2,by rw[show n-1=m by have:=iE.out;omega];exact HD2.out,fun h0=>by have:=iE.out;omega,Av.out,Tx.out,Vw.out,Fp.out.1⟩
        case measure=>
         rw[Fp.out.2.measure,HR.out.measure]
         exact AJ.out
theorem BO (cb:Nat) (hcb:g cb= .none∧¬D cb) (hP:qX T):∀(n:Nat) (hn:n≤8) (id:Int) (C:oJ) (w:World),aH g D w p mb ib nb T→bf T id=2→MapAt aV w cb (zU C)→aI gH C→C.length≤sm C→Ah T C+(aJ T id).length≤1000000000000→
  Calls Tryz.prog 121 #[ptr p, .int .i64 id, .int .i64 (8-(n:Int)), .map (some cb)] w (iA T C n id cb w)
 |0,hn,id,C,w,h,hk,hM,hS,hl,hp=>by
  obtain⟨x,hx,hxk⟩:=eX hk
  rw[bT hx]at hp
  exact zQ 0 hn id x C cb w h hcb hM.lt hP hx hxk hM hS hl hp fun m e=>by omega
 |n+1,hn,id,C,w,h,hk,hM,hS,hl,hp=>by
  obtain⟨x,hx,hxk⟩:=eX hk
  rw[bT hx]at hp
  refine zQ (n+1) hn id x C cb w h hcb hM.lt hP hx hxk hM hS hl hp fun m hm e he hke w1 C1 hK hM1 hS1 hl1 hp1=> ?_
  obtain rfl:m=n:=by omega
  exact BO cb hcb hP m (by omega) e.2 C1 w1 (h.keeps hK fun z hz (e:z=cb)=>by
   subst e
   rcases hz with hz|hz
   ·exact hz hcb.1
   ·exact hcb.2 hz) hke hM1 hS1 hl1 hp1
end
section
variable {P:Program} {K:TypeId} {κ:Type} [DecidableEq κ] (F:vB P K κ)
variable {w:World} {ops:Array Oper} {rest:List Oper} {o:Oper} {a:Act} {Q:Exit→Act→World→Prop}
theorem Ai (hg:Region.wanted o (yielded ops a.tmps)=true) (m x v:Operand) (t e:TypeId) (hop:o.op=Op.insert t m x v) (ht:P.underlying t=some (.map K e))
  {b:Nat} {l:List (κ×Value)} (hm:a.eval m= .map (some b)) (hM:MapAt F w b l) (hn:l.length<maxLen) (k:κ) (val:Value) (hx:a.eval x=F.val k) (hv:a.eval v=val) (hok:F.ok k)
  (h:∀w',MapAt F w' b (bZ F.lt k val l)→w.mapTurned w' b→wpList P ops Q rest (a.put o.dst undef) w'):wpList P ops Q (o::rest) a w:=by
 refine BigFrame.wpList_want hg fun K' hK=> ?_
 obtain⟨w',hrun,r1,r2⟩:=MapAt.ru F ht hM hn k val hok
 unfold Oper.wp
 simp[execOp,hop,hm,hx,hv,hrun,Result.andThen]
 exact hK _ _ (h w' r1 r2)
theorem MapAt.NM {t e:TypeId} (ht:P.underlying t=some (.map K e)) {z:Value} (hz:(zeroValue e).run P w= .ok z w) {b:Nat} {l:List (κ×Value)} (hM:MapAt F w b l) (k:κ) (hok:F.ok k):
  (Instr.lookup t (.map (some b)) (F.val k) false).run P w= .ok ((ah k l).getD z) w:=by
 obtain⟨v,ps,hrun,hv⟩:=World.ownsMap.lookup hM F.law ht hz (zd:= .held z) (zp:=[]) rfl (F.of k hok)
 rw[BS]at hv
 have hv':v=(ah k l).getD z:=by
  simp only[lM,Option.some.injEq,Prod.mk.injEq]at hv
  have:=hv.1
  cases hg':ah k l with
  |none=>rw[hg']at this;simpa using this
  |some u=>rw[hg']at this;simpa using this
 rw[hv']at hrun
 exact hrun
end
section
variable {g:Nat→Own} {D:Nat→Prop} {p mb:Nat} {ib nb:Int→Nat} {T:aF}
def BP (T:aF) (q:Int×bA):Prop:=(((if q.1=0 then 1 else 0)+(jW T 8 0).count q.1:Nat):Int)=q.2.links∧¬(q.2.links=0∧q.2.closed=true)
def Vx (T:aF) (ib:Int→Nat) (mb r:Nat) (w3 wr:World):Prop:=
 ∃(left:Int→Bool) (cnt:Nat),dI aV wr mb r (T.map fun q=>(q.1,ptr (ib q.1))) left cnt∧(∀q∈T,left q.1=false→BP T q)∧Keeps (fun b=>b=r) w3 wr
set_option maxRecDepth 100000 in
set_option maxHeartbeats 16000000 in
theorem G8 (w:World) (h:aH g D w p mb ib nb T) (hP:qX T):
  Calls Tryz.prog 57 #[ptr p] w fun e w'=>Below w.heap.size w w'∧∃r:Bool,e= .returned (.bool r)∧(r=true↔ku T):=by
 obtain⟨hc0,hpw,hmw⟩:=h.cell
 have hok0:aV.ok 0:=lC (by omega) (by omega)
 have fE:=Lib.hid h.map
 have HP:=Lib.hid hP
 have hlen:=hP.few
 cases hx:ah (0:Int) T with
 |none=>
  have HG:Hid (ah (0:Int) (T.map fun q=>(q.1,ptr (ib q.1)))=none):=by show _=_;rw[dh,hx];rfl
  have HF:Hid (¬ku T):=fun hR=>by
   have:=hR.1
   unfold bf at this
   rw[hx]at this
   cases this
  clear h hP hx hlen
  go_enter Tryz.func57,Tryz.ntmps57
  go_wp2_with (at_lookup;refine aG aV rfl _ _ 104 107 rfl Tryz.underlying104 (Tryz.aT _) rfl fE.out 0 rfl hok0 ?_;rw[HG.out])
  go_ret
  exact⟨Below.refl _ _,false,rfl,⟨fun h=>(by cases h),fun h=>absurd h HF.out⟩⟩
 |some x=>
  have HG:Hid (ah (0:Int) (T.map fun q=>(q.1,ptr (ib q.1)))=some (ptr (ib 0))):=by show _=_;rw[dh,hx];rfl
  obtain⟨-,c1,-,-,-,-,-,hiw⟩:=(h.item 0 x hx).cell
  by_cases hk:x.kind=2
  ·have g1:(x.kind==2)=true:=by simpa using hk
   have g1':(x.kind !=2)=false:=by simpa using hk
   have hk0:bf T 0=2:=by rw[aY hx];exact hk
   by_cases h64:T.length≤64
   ·have NZ:Hid ((T.map fun q=>(q.1,ptr (ib q.1))).length=T.length):=List.length_map _
    obtain⟨n,hn⟩:∃n,n=T.length:=⟨_,rfl⟩
    have d1:decide ((64:Int)<(n:Int))=false:=by simp;omega
    have HN:=Lib.hid hn
    have HH:=Lib.hid h
    have YE:=Lib.hid hk0
    have hmm:= @run_makeMap Tryz.prog
    have HM0:=Lib.hid (MapAt.made (F:=aV) w)
    clear h hP hx hk hk0 hn
    go_enter Tryz.func57,Tryz.ntmps57
    go_wp2_with (first|(at_lookup;refine aG aV rfl _ _ 104 107 rfl Tryz.underlying104 (Tryz.aT _) rfl fE.out 0 rfl hok0 ?_;rw[HG.out])|(at_len;refine gP aV rfl _ 104 107 rfl Tryz.underlying104 rfl fE.out ?_;rw[NZ.out,←HN.out])|(refine Ai aV rfl _ _ _ 177 3 rfl Tryz.underlying177 rfl HM0.out (by unfold maxLen;simp) 0 (.int .i64 1) rfl rfl hok0 ?_;intro w1 hM1 hT1;have J_:=Lib.hid hM1;have HT1:=Lib.hid hT1;clear hM1 hT1))
    have hb1:Below w.heap.size w w1:=(wall w (.map #[] 0)).trans ((Keeps.turned HT1.out).iU (by simp) fun z hz (e:z=w.heap.size)=>by omega)
    have HB1:=Lib.hid hb1
    have hm1:MapAt aV w1 w.heap.size (zU [(0,1)]):=J_.out
    have hA1:=HH.out.below hb1 (Nat.le_refl _)
    have hgc:g w.heap.size= .none:=Classical.byContradiction fun hn=>by have:=HH.out.low _ hn;omega
    have hdc:¬D w.heap.size:=fun hn=>by have:=HH.out.oO _ hn;omega
    have hnl:(aJ T 0).length≤65535:=by
     obtain⟨z,hz,-⟩:=eX YE.out
     rw[bT hz]
     exact(HP.out.get hz).few
    have Kw:Ah T [(0,1)]+(aJ T 0).length≤1000000000000:=by
     have h1:zc T [(0,1)]≤T.length:=List.countP_le_length
     have h2:sm [(0,1)]=1:=rfl
     unfold Ah
     omega
    have hlk:=BO w.heap.size ⟨hgc,hdc⟩ HP.out 8 (by omega) 0 [(0,1)] w1 hA1 YE.out hm1 (List.pairwise_singleton _ _) (by decide) Kw
    rw[show(8-((8:Nat):Int))=0 from rfl]at hlk
    have lJ:=Lib.hid hlk
    clear hb1 hm1 hA1 hgc hdc hnl Kw hlk hmm
    go_wp2_with fail
    (with_reducible refine lJ.out.mono ?_)
    rintro e w2 ⟨hK2,r,rfl,hiff,hok⟩
    have YF:=Lib.hid hiff
    have HB2:=Lib.hid (HB1.out.trans (hK2.iU HB1.out.size fun z hz (e:z=w.heap.size)=>by omega))
    cases r with
    |false=>
     clear hK2 hiff hok
     go_wp2_with fail
     go_ret
     exact⟨HB2.out,false,rfl,⟨fun h=>(by cases h),fun h=>by have:=YF.out.2 h.2.2.1;cases this⟩⟩
    |true=>
     obtain⟨C2,-,hc2,-,-,hm2⟩:=hok rfl
     have HLC:=Lib.hid (hiff.1 rfl)
     have Pg:=Lib.hid hc2
     have FK:=Lib.hid hm2
     have HA2:=Lib.hid (HH.out.below HB2.out (Nat.le_refl _))
     have og:=Lib.hid HA2.out.map
     have hcw2:=hm2.lt
     have hmw2:=og.out.lt
     have hq2:=HA2.out.cell.1
     have hcm:w.heap.size≠mb:=by omega
     clear hc2 hm2 hK2 hiff hok
     go_wp2_with (at_range;refine jZ aV rfl _ 104 107 rfl Tryz.underlying104 rfl og.out ?_;intro w3 xI hB3 hs3)
     go_frame
     have HB3:=Lib.hid hB3
     have HR3:=Lib.hid xI
     clear hB3 xI
     go_loopw [6,7] (fun _ _ wr=>Vx T ib mb w2.heap.size w3 wr) (fun _ _ wr=>wr.rangeLeft mb w2.heap.size)
     case atStart=>
      refine⟨_,_,HR3.out,fun q hq hl=> ?_,Keeps.refl _ _⟩
      rw[dh,aL bW HP.out.sorted hq]at hl
      cases hl
     case round=>
      obtain⟨left,cnt,hR,hall,hK⟩:=hrel
      have HR:=Lib.hid hR
      have JX:=Lib.hid hall
      have HK:=Lib.hid hK
      clear hR hall hK
      go_wp2_with (first|(at_next;refine lg aV rfl _ rfl rfl HR.out ?_ ?_))
      ·intro hdone
       have zS:=Lib.hid hdone
       clear hdone
       go_wp2_with fail
       go_ret
       refine⟨HB2.out.trans ((HB3.out.mono HB2.out.size).trans (HK.out.iU (by omega) fun z hz (e:z=w2.heap.size)=>by have:=HB2.out.size;omega)),true,rfl,⟨fun _=>⟨YE.out,h64,HLC.out,fun q hq=>JX.out q hq (zS.out _)⟩,fun _=>rfl⟩⟩
      ·intro k v w4 cnt1 LB hleft hg2 mQ hlt hK1 hs1 hen
       rw[dh]at hg2
       cases hy:ah k T with
       |none=>rw[hy]at hg2;cases hg2
       |some y=>
        rw[hy]at hg2
        cases hg2
        have hK4:Keeps (fun b=>b=w2.heap.size) w3 w4:=HK.out.trans hK1 fun z _ hz=>hz
        have hs3':=HK.out.size
        have CU:aH g D w4 p mb ib nb T:=(HA2.out.below HB3.out (Nat.le_refl _)).keeps hK4 fun z hz (e:z=w2.heap.size)=>by
         rcases hz with hz|hz
         ·have:=HA2.out.low z hz;omega
         ·have:=HA2.out.oO z hz;omega
        obtain⟨-,-,y2,-,-,y5,-,hyw⟩:=(CU.item k y hy).cell
        have Nc:MapAt aV w4 w.heap.size (zU C2):=(FK.out.kept (HB3.out.block _ hcw2)).kept (hK4.block _ (by omega) (by omega))
        obtain⟨cN,Fg⟩:∃cN,cN=iK C2 k:=⟨_,rfl⟩
        have hlk:∀n,(Instr.lookup 177 (.map (some w.heap.size)) (.int .i64 k) false).run Tryz.prog (w4.drewN n)= .ok (.int .i64 (cN:Int)) (w4.drewN n):=fun n=>by
         have h9:=MapAt.NM (F:=aV) (w:=w4.drewN n) (t:=177) Tryz.underlying177 (Tryz.dL _) (Nc.kept rfl) k LB
         rw[zO,←Fg]at h9
         exact h9
        have HIS:Hid ((BP T (k,y)↔(cN:Int)=y.links∧¬(y.links=0∧y.closed=true))):=by
         unfold BP
         dsimp only
         rw[Fg,Pg.out k,EX]
         exact Lib.hid Iff.rfl
        have DV:Hid ((k,y)∈T):=bq hy
        have HR1:=Lib.hid mQ
        have AJ:=Lib.hid hlt
        have E9:=Lib.hid hK4
        have Oc:Hid (∀w',Keeps (fun b=>b=w2.heap.size) w3 w'→Below w.heap.size w w'):=fun w' hK=>HB2.out.trans ((HB3.out.mono HB2.out.size).trans (hK.iU (by have:=HB2.out.size;omega) fun z hz (e:z=w2.heap.size)=>by have:=HB2.out.size;omega))
        have HGT:=Lib.hid (fun z (hz:ah z T=some y)=>hz)
        have e3:aV.val k= .int .i64 k:=rfl
        rw[e3]at hen⊢
        have HY:=Lib.hid hy
        clear e3 mQ hlt hK4 CU Nc Fg hy hK1 hs1
        have Q0:Hid (¬BP T (k,y)→¬ku T):=fun hn hR=>hn (hR.2.2.2 _ DV.out)
        have CX:Hid (BP T (k,y)→∀q∈T,(left q.1&& !decide (q.1=k))=false→BP T q):=fun hrow q hq hl=>by
         by_cases hqk:q.1=k
         ·have h9:=aL bW HP.out.sorted hq
          rw[hqk,HY.out]at h9
          have e9:y=q.2:=Option.some.inj h9
          have:q=(k,y):=Prod.ext hqk e9.symm
          rw[this]
          exact hrow
         ·refine JX.out q hq ?_
          simpa[hqk]using hl
        by_cases hcl:(cN:Int)=y.links
        ·have d2:((cN:Int)==y.links)=true:=by simpa using hcl
         have d3:((cN:Int) !=y.links)=false:=by simpa using hcl
         by_cases hl0:y.links=0
         ·have d4:(y.links==0)=true:=by simpa using hl0
          cases TP:y.closed with
          |true=>
           rw[TP]at y5
           have HF:=Lib.hid (Q0.out fun hr=>(HIS.out.1 hr).2 ⟨hl0,TP⟩)
           clear hcl hl0 TP
           go_wp2_with fail
           go_quiet (fail)
           go_wp2_with fail
           go_ret
           exact⟨Oc.out _ (Keeps.trans E9.out (fp':=fun b=>b=w2.heap.size) ⟨rfl,rfl,rfl,Nat.le_refl _,fun _ _ _=>rfl⟩ fun z _ hz=>hz),false,rfl,⟨fun h=>(by cases h),fun h=>absurd h HF.out⟩⟩
          |false=>
           rw[TP]at y5
           have Vk:=Lib.hid (CX.out (HIS.out.2 ⟨hcl,fun hh=>by rw[TP]at hh;cases hh.2⟩))
           clear hcl hl0 TP
           go_wp2_with fail
           go_quiet (fail)
           go_wp2_with fail
           go_roundw
           case rel=>exact⟨_,cnt1,HR1.out.kept rfl rfl,Vk.out,Keeps.trans E9.out (fp':=fun b=>b=w2.heap.size) ⟨rfl,rfl,rfl,Nat.le_refl _,fun _ _ _=>rfl⟩ fun z _ hz=>hz⟩
           case measure=>
            have h4:=HR1.out.kept (w':=w4.drewN nq) rfl rfl
            rw[h4.measure,HR.out.measure]
            exact AJ.out
         ·have d4:(y.links==0)=false:=by simpa using hl0
          have Vk:=Lib.hid (CX.out (HIS.out.2 ⟨hcl,fun hh=>hl0 hh.1⟩))
          clear hcl hl0
          go_wp2_with fail
          go_quiet (fail)
          go_wp2_with fail
          go_roundw
          case rel=>exact⟨_,cnt1,HR1.out.kept rfl rfl,Vk.out,Keeps.trans E9.out (fp':=fun b=>b=w2.heap.size) ⟨rfl,rfl,rfl,Nat.le_refl _,fun _ _ _=>rfl⟩ fun z _ hz=>hz⟩
          case measure=>
           have h4:=HR1.out.kept (w':=w4.drewN nq) rfl rfl
           rw[h4.measure,HR.out.measure]
           exact AJ.out
        ·have d2:((cN:Int)==y.links)=false:=by simpa using hcl
         have d3:((cN:Int) !=y.links)=true:=by simpa using hcl
         have HF:=Lib.hid (Q0.out fun hr=>hcl (HIS.out.1 hr).1)
         clear hcl
         go_wp2_with fail
         go_quiet (fail)
         go_wp2_with fail
         go_ret
         exact⟨Oc.out _ (Keeps.trans E9.out (fp':=fun b=>b=w2.heap.size) ⟨rfl,rfl,rfl,Nat.le_refl _,fun _ _ _=>rfl⟩ fun z _ hz=>hz),false,rfl,⟨fun h=>(by cases h),fun h=>absurd h HF.out⟩⟩
   ·have NZ:Hid ((T.map fun q=>(q.1,ptr (ib q.1))).length=T.length):=List.length_map _
    obtain⟨n,hn⟩:∃n,n=T.length:=⟨_,rfl⟩
    have d1:decide ((64:Int)<(n:Int))=true:=by simp;omega
    have HN:=Lib.hid hn
    have HF:Hid (¬ku T):=fun hR=>by
     have:=hR.2.1
     omega
    clear h hP hx hk hk0 hn h64
    go_enter Tryz.func57,Tryz.ntmps57
    go_wp2_with (first|(at_lookup;refine aG aV rfl _ _ 104 107 rfl Tryz.underlying104 (Tryz.aT _) rfl fE.out 0 rfl hok0 ?_;rw[HG.out])|(at_len;refine gP aV rfl _ 104 107 rfl Tryz.underlying104 rfl fE.out ?_;rw[NZ.out,←HN.out]))
    go_ret
    exact⟨Below.refl _ _,false,rfl,⟨fun h=>(by cases h),fun h=>absurd h HF.out⟩⟩
  ·have g1:(x.kind==2)=false:=by simpa using hk
   have g1':(x.kind !=2)=true:=by simpa using hk
   have HF:Hid (¬ku T):=fun hR=>by
    have:=hR.1
    rw[aY hx]at this
    exact hk this
   clear h hP hx hk hlen
   go_enter Tryz.func57,Tryz.ntmps57
   go_wp2_with (at_lookup;refine aG aV rfl _ _ 104 107 rfl Tryz.underlying104 (Tryz.aT _) rfl fE.out 0 rfl hok0 ?_;rw[HG.out])
   go_ret
   exact⟨Below.refl _ _,false,rfl,⟨fun h=>(by cases h),fun h=>absurd h HF.out⟩⟩
end
theorem BQ (b:List UInt8):0≤(bY b).1.id∧(bY b).1.id≤65535:=by
 unfold bY
 split
 ·exact(pR b).id
 ·exact⟨by decide,by decide⟩
theorem Qi {s:Rd} {q:(Int×bA)×Rd} (h:gZ s=some q):0≤q.1.1∧q.1.1≤65535:=by
 unfold gZ at h
 dsimp only at h
 split at h
 ·cases h
 ·split at h
  ·split at h
   ·cases h;exact BQ _
   ·cases h
  ·split at h
   ·cases h
   ·cases h;exact BQ _
def lI (bs:List UInt8) (w:World) (e:Ending) (w':World):Prop:=
 (∃T p,parseM bs=some T∧ku T∧e= .returned (.tuple #[ptr p, .int .i64 0])∧CQ w p T w')∨((∀T,parseM bs=some T→¬ku T)∧e= .returned (.tuple #[.pointer none, .int .i64 12])∧Below w.heap.size w w')
theorem lI.no {bs:List UInt8} {w w':World} (h:∀T,parseM bs=some T→¬ku T) (hb:Below w.heap.size w w'):lI bs w (.returned (.tuple #[.pointer none, .int .i64 12])) w':= .inr ⟨h,rfl,hb⟩
def Vy (Dr:Nat→Prop) (w w1:World) (x p mb cnt:Nat) (s0:Rd) (lv iv:Value) (wr:World):Prop:=
 ∃(k:Nat) (sr:Rd) (last:Int) (acc:aF) (g:Nat→Own) (D:Nat→Prop) (ib nb:Int→Nat),iv= .int .i64 k∧k≤cnt∧lv= .int .i64 last∧-1≤last∧last≤65535∧ni (cnt-k) sr last acc=ni cnt s0 (-1) []∧(∀q∈acc,q.1≤last)∧acc.length=k∧
  bJ Dr wr x sr∧aH g D wr p mb ib nb acc∧(∀b,g b≠ .none∨D b→w1.heap.size≤b)∧Below w.heap.size w wr
theorem G9 {w1 w2:World} (hw:w2=(w1.alloc (.map #[] 0)).alloc (.cells #[.map (some w1.heap.size)] 106)):aH (fun b=>if b=w1.heap.size+1 then .head else if b=w1.heap.size then .items else .none) (fun _=>False) w2 (w1.heap.size+1) w1.heap.size (fun _=>0) (fun _=>0) []:=by
 have hs:w2.heap.size=w1.heap.size+2:=by rw[hw];simp
 refine⟨?_,?_,fun k x h=>(by cases h),by simp,by simp,fun k x h=>(by cases h),fun k x h=>(by cases h),fun b h=>h.elim,fun b hb=> ?_,fun b h=>h.elim⟩
 ·rw[hw]
  have:=(MapKept.heap_alloc (w1.alloc (.map #[] 0)) (.cells #[.map (some w1.heap.size)] 106)).1
  rw[World.size_alloc]at this
  exact this
 ·rw[hw]
  exact(MapAt.made (F:=aV) w1).kept ((wall _ _).block _ (by simp))
 ·by_cases h1:b=w1.heap.size+1
  ·omega
  ·by_cases h2:b=w1.heap.size
   ·omega
   ·rw[if_neg h1,if_neg h2]at hb;exact absurd rfl hb
set_option maxRecDepth 100000 in
set_option maxHeartbeats 16000000 in
theorem BR {S:Nat→Prop} (a:Option Addr) (n c:Nat) (bs:List UInt8) (w:World) (hm:n≤100000000) (hr:aj S w a n (bs.map bv)):
  Calls Tryz.prog 17 #[.slice a n c] w (lI bs w):=by
 have HN:=Lib.hid (sG a n c bs w hm hr)
 have hmm:= @run_makeMap Tryz.prog
 clear hr
 go_enter Tryz.func17,Tryz.ntmps17
 go_wp2_with fail
 (with_reducible refine HN.out.mono ?_)
 rintro e w1 ⟨x,rfl,hx,mQ,hb1⟩
 have HX:=Lib.hid hx
 have HB1:=Lib.hid hb1
 have hxw:=mQ.lt
 have HR1:=Lib.hid mQ
 clear hx hb1 mQ HN
 go_wp2_with fail
 obtain⟨w2,hw2⟩:∃w2,w2=(w1.alloc (.map #[] 0)).alloc (.cells #[.map (some w1.heap.size)] 106):=⟨_,rfl⟩
 rw[←hw2]
 have hb2:Below w1.heap.size w1 w2:=by rw[hw2];exact(wall w1 _).trans ((wall _ _).mono (by simp))
 have HT2:=Lib.hid (G9 hw2)
 have hs2:w2.heap.size=w1.heap.size+2:=by rw[hw2];simp
 have HB2:=Lib.hid hb2
 obtain⟨Dr,YG⟩:∃Dr:Nat→Prop,Dr=fun b=>w.heap.size≤b∧b<x:=⟨_,rfl⟩
 have HDR:=Lib.hid (fun b (hb:Dr b)=>(by rw[YG]at hb;exact hb:w.heap.size≤b∧b<x))
 rw[←YG]at HR1
 have HR2:=Lib.hid (HR1.out.below hb2 (Nat.le_refl _))
 have HS:=Lib.hid (ng HR2.out)
 obtain⟨cnt,hcnt⟩:∃cnt:Nat,(bO (bs,0) 2).1=(cnt:Int):=⟨(bO (bs,0) 2).1.toNat,by have:=fI (bs,0) 2;omega⟩
 have hcb:cnt<65536:=by
  have h1:=fI (bs,0) 2
  have:(256:Int)^2=65536:=rfl
  omega
 obtain⟨s0,hs0⟩:∃t,t=(bO (bs,0) 2).2:=⟨_,rfl⟩
 rw[hcnt,←hs0]at HS
 have Wh:Hid (parseM bs=match ni cnt s0 (-1) []with|none=>none|some q=>if oH q.2=0 then some q.1 else none):=by
  show _=_
  unfold parseM
  rw[hcnt,←hs0,Int.toNat_natCast]
  rfl
 clear hw2 hb2 YG hcnt hs0 hmm
 go_wp2_with fail
 (with_reducible refine HS.out.mono ?_)
 rintro e w3 ⟨rfl,xI,hK3⟩
 have HR3:=Lib.hid xI
 have HB3:Hid (Below w.heap.size w w3):=HB1.out.trans ((HB2.out.mono HB1.out.size).trans (qY hK3 HX.out (by have:=HB1.out.size;omega)))
 have HT3:=Lib.hid (HT2.out.keeps hK3 fun z hz (e:z=x)=>by
  subst e
  rcases hz with hz|hz
  ·rw[if_neg (by omega),if_neg (by omega)]at hz
   exact hz rfl
  ·exact hz)
 clear xI hK3 HS HR2 HT2
 go_wp2_with fail
 go_loopw [6,7,8,16] (fun lv _ _ iv wr=>Vy Dr w w1 x (w1.heap.size+1) w1.heap.size cnt s0 lv iv wr) (fun _ _ _ iv _=>cnt-(intOf iv).toNat)
 case atStart=>
  refine⟨0,s0,-1,[],_,_,_,_,rfl,Nat.zero_le _,rfl,by omega,by omega,rfl,fun q hq=>(by cases hq),rfl,HR3.out,HT3.out,fun b hb=> ?_,HB3.out⟩
  rcases hb with hb|hb
  ·refine Classical.byContradiction fun hn=> ?_
   rw[if_neg (by omega),if_neg (by omega)]at hb
   exact hb rfl
  ·exact hb.elim
 case round=>
  obtain⟨k,sr,last,acc,g,D,ib,nb,rfl,hk,rfl,hl0,hl1,hrd,hal,hac,hRr,hTr,hnew,hB⟩:=hrel
  have Sw:=Lib.hid hrd
  have SV:=Lib.hid hal
  have TN:=Lib.hid hac
  have HRR:=Lib.hid hRr
  have Cm:=Lib.hid hTr
  have Kz:=Lib.hid hnew
  have HB:=Lib.hid hB
  clear hrd hal hac hRr hTr hnew hB
  by_cases hlt:k<cnt
  ·have HI:=Lib.hid (Ku HRR.out)
   go_wp2_with fail
   (with_reducible refine HI.out.mono ?_)
   rintro e w4 ⟨hK4,Nc⟩
   have dS:Hid (Below w.heap.size w w4):=HB.out.trans (qY hK4 HX.out HB.out.size)
   cases hq:gZ sr with
   |none=>
    rw[hq]at Nc
    obtain⟨v,rfl⟩:=Nc
    have HF:Hid (∀T,parseM bs=some T→¬ku T):=fun T hT=>by
     rw[Wh.out,←Sw.out,show cnt-k=(cnt-(k+1))+1 by omega,wW hq]at hT
     cases hT
    clear hq hK4 HI
    go_wp2_with fail
    go_ret2
    exact lI.no HF.out dS.out
   |some q=>
    rw[hq]at Nc
    obtain⟨i,nn,D3,rfl,KM,Wi,hi1,hi2,hn1,hd3⟩:=Nc
    obtain⟨q0,q1⟩:=Qi hq
    obtain⟨c0,-,-,-,-,-,-,hiw⟩:=Wi.cell
    by_cases hle:q.1.1≤last
    ·have HF:Hid (∀T,parseM bs=some T→¬ku T):=fun T hT=>by
      rw[Wh.out,←Sw.out,show cnt-k=(cnt-(k+1))+1 by omega,nE hq,if_pos hle]at hT
      cases hT
     have d1:decide (q.1.1≤last)=true:=by simpa using hle
     clear hq hK4 KM Wi hn1 hd3 HI hle
     go_wp2_with fail
     go_ret2
     exact lI.no HF.out dS.out
    ·have d1:decide (q.1.1≤last)=false:=by simpa using hle
     have hxg:g x= .none:=Classical.byContradiction fun hn=>by have:=Kz.out x (.inl hn);omega
     have hxd:¬D x:=fun hn=>by have:=Kz.out x (.inr hn);omega
     have qB:aH g D w4 (w1.heap.size+1) w1.heap.size ib nb acc:=Cm.out.keeps hK4 fun z hz (e:z=x)=>by
      subst e
      rcases hz with hz|hz
      ·exact hz hxg
      ·exact hxd hz
     obtain⟨hc4,hpw4,hmw4⟩:=qB.cell
     have Vz:aV.ok q.1.1:=lC q0 (by omega)
     have hlast:∀y∈acc,y.1≠q.1.1∧gH q.1.1 y.1=false:=fun y hy=>by
      have h9:=SV.out y hy
      exact⟨by omega,decide_eq_false (by omega)⟩
     have Ky:Hid (bZ gH q.1.1 q.1.2 acc=acc++[q.1]):=BM gH q.1.2 hlast
     have HNO:Hid (ah q.1.1 acc=none):=iq.2 fun y hy=>(hlast y hy).1
     have HLEN:Hid ((acc.map fun q=>(q.1,ptr (ib q.1))).length<maxLen):=by
      show _<_
      rw[List.length_map,TN.out]
      unfold maxLen
      omega
     have Av:=Lib.hid qB.map
     have wH:=Lib.hid qB
     have HQ:=Lib.hid hq
     have E9:=Lib.hid hK4
     have HR4:=Lib.hid KM
     have HI4:=Lib.hid Wi
     have HI1:=Lib.hid (And.intro hi1 hi2)
     have WL:=Lib.hid hn1
     have HD3:=Lib.hid hd3
     have Az:=Lib.hid hle
     have hs4:=hK4.size
     clear hq hK4 KM Wi hn1 hd3 HI hle qB hlast hxg hxd
     obtain⟨qk,hqk⟩:∃qk,qk=q.1.1:=⟨_,rfl⟩
     rw[←hqk]at c0 d1 Vz Ky HNO HI4 Az q0 q1
     have YH:=Lib.hid hqk
     clear hqk
     go_wp2_with (at_mapUpdate;refine gM aV rfl _ _ _ 104 107 rfl Tryz.underlying104 rfl Av.out HLEN.out qk (ptr i) rfl rfl Vz ?_;intro w5 Rc La;have U5:=Lib.hid Rc;have Dm:=Lib.hid La;clear Rc La)
     go_roundw
     case rel=>
      have hs5:=iB Dm.out
      have hn1:=WL.out
      have hi1':=HI1.out.1
      have hi2':=HI1.out.2
      have hnone:∀b,wr.heap.size≤b→g b= .none∧¬D b:=fun b hb=>⟨Classical.byContradiction fun hn=>by have:=Cm.out.low b hn;omega,fun hn=>by have:=Cm.out.oO b hn;omega⟩
      have hmr:=Cm.out.cell.2.2
      have hkeep:∀b,b<w4.heap.size→b≠w1.heap.size→w5.heap[b]? =w4.heap[b]? :=fun b hb hne=>dG Dm.out b hb hne
      have hi5:iN D3 w5 qk i nn q.1.2:=HI4.out.move (by omega) (hkeep _ (by omega) (by omega)) (fun hk2=>hkeep _ (by have:=(hn1 hk2).2.1;omega) (by have:=(hn1 hk2).1;omega)) fun b hb hbw=>⟨hb,hkeep b hbw (by have:=(HD3.out b hb).1;omega)⟩
      have CV:=wH.out.add2 (w':=w5) (D2:=D3) (k:=qk) (x:=q.1.2) (i:=i) (n:=nn) (hnone i (by omega)) (fun hk2=>hnone nn (hn1 hk2).1) (fun hk2=>(hn1 hk2).2.2) (by omega) (fun hk2=>by have:=(hn1 hk2).2.1;omega) HNO.out U5.out (by omega) (fun b hb _ hne=>hkeep b hb hne) hi5 (fun b hb=>by
       obtain⟨e1,e2,e3,e4⟩:=HD3.out b hb
       exact⟨(hnone b e1).1,by omega,e3,e4⟩)
      rw[Ky.out]at CV
      refine⟨k+1,q.2,qk,acc++[q.1],_,_,_,_,by go_num,by omega,rfl,by omega,by omega,?_,fun y hy=> ?_,by rw[List.length_append,TN.out];rfl,?_,CV,fun b hb=> ?_,?_⟩
      ·rw[←Sw.out,show cnt-k=(cnt-(k+1))+1 by omega,nE HQ.out,if_neg (by rw[←YH.out];have:=Az.out;omega),←YH.out]
      ·rcases List.mem_append.1 hy with h9|h9
       ·have:=SV.out y h9
        have:=Az.out
        omega
       ·simp only[List.mem_singleton]at h9
        rw[h9,←YH.out]
        exact Int.le_refl _
      ·exact HR4.out.kept (by omega) (hkeep x (by have:=HR4.out.lt;omega) (by omega)) fun b hb hbw=>hkeep b hbw (by have:=HDR.out b hb;omega)
      ·have hw1r:w1.heap.size≤wr.heap.size:=by omega
       rcases hb with hb|hb
       ·by_cases e1:b=i
        ·omega
        ·by_cases e2:b=nn∧q.1.2.kind=2
         ·have:=(hn1 e2.2).1;omega
         ·rw[if_neg e1,if_neg e2]at hb
          exact Kz.out b (.inl hb)
       ·rcases hb with hb|hb
        ·exact Kz.out b (.inr hb)
        ·have:=(HD3.out b hb).1;omega
      ·exact dS.out.trans ((Keeps.turned Dm.out).iU (by have:=dS.out.size;omega) fun z hz (e:z=w1.heap.size)=>by have:=HB1.out.size;omega)
     case measure=>simp[intOf];omega
  ·obtain rfl:k=cnt:=by omega
   have HE:=Lib.hid (GL HRR.out)
   by_cases hz:oH sr=0
   ·have hpa:parseM bs=some acc:=by
     rw[Wh.out,←Sw.out,Nat.sub_self,nD]
     dsimp only
     rw[if_pos hz]
    have P6:=Lib.hid (G8 wr Cm.out (BI hpa).2)
    have HPB:=Lib.hid hpa
    rw[hz]at HE
    clear hz hpa
    go_wp2_with fail
    (with_reducible refine HE.out.mono ?_)
    rintro e _ ⟨rfl,rfl⟩
    go_wp2_with fail
    (with_reducible refine P6.out.mono ?_)
    rintro e w4 ⟨hb4,r,rfl,hiff⟩
    have dS:=Lib.hid hb4
    cases r with
    |true=>
     have YI:=Lib.hid (hiff.1 rfl)
     clear hiff hb4
     go_wp2_with fail
     go_ret2
     exact .inl ⟨acc,_,HPB.out,YI.out,rfl,g,D,w1.heap.size,ib,nb,Cm.out.below dS.out (Nat.le_refl _),fun b hb=>by have:=Kz.out b (.inl hb);have:=HB1.out.size;omega,fun b hb=>by have:=Kz.out b (.inr hb);have:=HB1.out.size;omega,HB.out.trans (dS.out.mono HB.out.size)⟩
    |false=>
     have YI:Hid (∀T,parseM bs=some T→¬ku T):=fun T hT hR=>by
      rw[HPB.out]at hT
      cases hT
      have:=hiff.2 hR
      cases this
     clear hiff hb4
     go_wp2_with fail
     go_ret2
     exact lI.no YI.out (HB.out.trans (dS.out.mono HB.out.size))
   ·have d1:(oH sr !=0)=true:=by simpa using hz
    have HF:Hid (∀T,parseM bs=some T→¬ku T):=fun T hT=>by
     rw[Wh.out,←Sw.out,Nat.sub_self,nD]at hT
     dsimp only at hT
     rw[if_neg hz]at hT
     cases hT
    clear hz
    go_wp2_with fail
    (with_reducible refine HE.out.mono ?_)
    rintro e _ ⟨rfl,rfl⟩
    go_wp2_with fail
    go_ret2
    exact lI.no HF.out HB.out
def pV (bs:List UInt8) (m:UInt8):List UInt8:=bs++List.replicate 80 m
theorem G_ (bs:List UInt8) (m:UInt8) {n:Nat} (h:bs.length=n):(pV bs m).take n=bs:=by
 unfold pV
 rw[List.take_append_of_le_length (by omega),List.take_of_length_le (by omega)]
def S_ (w:World) (n:Nat) (bs:List UInt8) (e:Ending) (w':World):Prop:=
 ∃g,e= .returned (.slice (some ⟨g,0,none⟩) n n)∧w.heap.size≤g∧w'.heap[g]? =some (.cells (bs.map bv).toArray 5 (0,0))∧Below w.heap.size w w'
def Qj (w:World) (g len:Nat) (bs:List UInt8) (m:UInt8) (i:Value) (wr:World):Prop:=
 ∃k:Nat,i= .int .i64 ((len:Int)+k)∧k≤80∧Hid (wr.heap[g]? =some (.cells ((bs++List.replicate k m++List.replicate (80-k) 0).map bv).toArray 5 (0,0)))∧Below w.heap.size w wr
theorem NP (bs:List UInt8) (m:UInt8) {k:Nat} (hk:k<80):(((bs++List.replicate k m++List.replicate (80-k) 0).map bv).toArray).setIfInBounds (bs.length+k) (bv m)=((bs++List.replicate (k+1) m++List.replicate (80-(k+1)) 0).map bv).toArray:=by
 rw[show 80-k=(80-(k+1))+1 by omega,List.replicate_succ (n:=80-(k+1)),List.replicate_succ' (n:=k)]
 rw[List.setIfInBounds_toArray]
 congr 1
 simp only[List.map_append,List.map_cons,List.map_replicate,List.append_assoc,List.map_nil]
 rw[List.set_append_right _ _ (by simp),List.set_append_right _ _ (by simp)]
 simp
theorem KA {S:Nat→Prop} {w w2:World} {a:Option Addr} {len n:Nat} {bs:List UInt8} (hown:w2.ownsRow w.heap.size 5 1 (.slice (some ⟨w.heap.size,0,none⟩) n n) n (madeCells (Value.int .u8 0).cells (n*1)).toList) (hg:w.grownBy w2 none) (h:aj S w a len (bs.map bv)):
  Hid (w2.heap[w.heap.size]? =some (.cells ((List.replicate n (0:UInt8)).map bv).toArray 5 (0,0)))∧Below w.heap.size w w2∧Hid (0<bs.length→∃ad,a=some ad∧∀j v,(bs.map bv)[j]? =some v→w2.cell? (ad.add j)=some v):=by
 have hB:Below w.heap.size w w2:=⟨hg.os,hg.tape,hg.output,hg.size,fun i hi=>hg.block i hi (by simp)⟩
 refine⟨?_,hB,fun h0=> ?_⟩
 ·rw[show Value.cells (.int .u8 0)= #[.int .u8 0]from rfl,toList_madeCells_one]at hown
  obtain⟨_,hown⟩:=hown
  rcases hown with⟨hx,_⟩|⟨g,cap,cur,hx,_,hcur,_,_,hcs,htake⟩
  ·cases hx
  ·simp only[Value.slice.injEq,Option.some.injEq,Addr.mk.injEq,and_true,true_and]at hx
   obtain⟨rfl,_,rfl⟩:=hx
   show _=_
   rw[hcur]
   congr 2
   rw[List.take_of_length_le (by simp;omega)]at htake
   apply Array.toList_inj.1
   rw[htake]
   simp
 ·have hl:=h.length
  rw[List.length_map]at hl
  obtain⟨b,off,rfl,hS,hb,hc⟩:=h.at_ (by omega)
  exact⟨_,rfl,(h.below hB (Nat.le_refl _)).cells⟩
set_option maxRecDepth 100000 in
set_option maxHeartbeats 1000000 in
theorem KC {S:Nat→Prop} (a:Option Addr) (len cap:Nat) (bs:List UInt8) (m:UInt8) (mi:Int) (YJ:mi=m.toNat) (w:World) (h:aj S w a len (bs.map bv)) (hlen:len≤140737488355328):
  Calls Tryz.prog 16 #[.slice a len cap, .int .u8 mi] w (S_ w (len+80) (pV bs m)):=by
 obtain⟨i0,hi,hz0,hz1,hz2⟩:=info_parts Tryz.C9
 have hbl:bs.length=len:=by have:=h.length;simpa using this
 have e3:IntKind.i64.wrap ((len:Int)+80)=(len:Int)+80:=IntWalk.i64_in _ (by omega)
 have HH:=Lib.hid h
 have Hy:=Lib.hid hbl
 clear h hbl
 go_enter Tryz.func16,Tryz.ntmps16
 subst YJ
 have hnm:bs.length=Nat.min len (len+80):=by rw[Hy.out];show _=min _ _;omega
 have hfit:0+bs.length≤((List.replicate (len+80) (0:UInt8)).map bv).length:=by rw[List.length_map,List.length_replicate,Hy.out];omega
 have lW:=Lib.hid hnm
 have YK:=Lib.hid hfit
 clear hnm hfit
 go_wp2_with (first|(at_make;refine wpList_make_full _ rfl _ _ 23 rfl w.heap.size 5 i0 (.int .u8 0) 1 Tryz.underlying23 hi hz0 hz1 .i64 .i64 ((len:Int)+80) ((len:Int)+80) (len+80) rfl rfl (by omega) (by omega) (by rw[hz2];omega) (by unfold maxLen;omega) (Nat.le_refl _) ?_;intro w2 hown2 hgrow2;obtain⟨HG2,hB2,hrow2⟩:=KA hown2 hgrow2 HH.out;clear hown2 hgrow2)|(with_reducible refine zV rfl _ _ 23 23 rfl 5 Tryz.underlying23 Tryz.TQ a w.heap.size 0 (len+80) (len+80) len cap rfl rfl _ 5 HG2.out bs lW.out hrow2.out YK.out ?_;intro w3 Lc hK3 hs3))
 have hs2:=hB2.size
 have hg2:=(Array.getElem?_eq_some_iff.1 HG2.out).1
 have hB3:Below w.heap.size w w3:=⟨hK3.os.trans hB2.os,hK3.tape.trans hB2.tape,hK3.output.trans hB2.output,by omega,fun x hx=>(hK3.block x (by omega) (by omega)).trans (hB2.block x hx)⟩
 have hst:Hid (w3.heap[w.heap.size]? =some (.cells ((bs++List.replicate 0 m++List.replicate (80-0) 0).map bv).toArray 5 (0,0))):=by
  have:=Lc.out
  rw[Fu]at this
  show _=_
  rw[this]
  congr 4
  unfold splice
  simp[Hy.out]
 clear hK3 Lc HG2 hrow2
 go_loopw [6] (fun i wr=>Qj w w.heap.size len bs m i wr) (fun i _=>(len+80)-(intOf i).toNat)
 case atStart=>exact⟨0,by simp,by omega,hst,hB3⟩
 case round=>
  obtain⟨k,rfl,hk,HG,hB⟩:=hrel
  by_cases hlt:k<80
  ·have i1:(len:Int)+k<(len:Int)+80:=by omega
   have i0':(0:Int)≤(len:Int)+k:=by omega
   have t0:((len:Int)+k).toNat=len+k:=by omega
   have hfz:wr.frozen? ⟨w.heap.size,len+k,none⟩=false:=by simp[World.frozen?,HG.out]
   obtain⟨u,Y7⟩:∃u,wr.cell? ⟨w.heap.size,len+k,none⟩=some u:=by
    have hlt2:len+k<((bs++List.replicate k m++List.replicate (80-k) 0).map bv).toArray.size:=by simp[Hy.out];omega
    exact⟨_,by simp only[World.cell?,HG.out];exact Array.getElem?_eq_getElem hlt2⟩
   have XG:Hid ((wr.setCell ⟨w.heap.size,len+k,none⟩ (.int .u8 m.toNat)).heap[w.heap.size]? =some (.cells ((bs++List.replicate (k+1) m++List.replicate (80-(k+1)) 0).map bv).toArray 5 (0,0))):=by
    show _=_
    rw[bX HG.out,←NP bs m hlt,Hy.out]
   go_wp2
   go_roundw
   case rel=>exact⟨k+1,by go_num,by omega,XG,hB.setCell (Nat.le_refl _) _⟩
   case measure=>simp[intOf];omega
  ·obtain rfl:k=80:=by omega
   have i1:¬(len:Int)+(80:Nat)<(len:Int)+80:=by omega
   go_wp2
   go_ret
   have hg:=HG.out
   simp only[Nat.sub_self,List.replicate_zero,List.append_nil]at hg
   exact⟨w.heap.size,rfl,Nat.le_refl _,hg,hB⟩
end Go.Proofs.YtjnhnlabpccgjaaGreat
