/- tree: links. tree: right. tree: Load. A loaded tree: of saved bytes, under a mark. package snap: read, of bytes that Save wrote. -/
import Derived.Test.YtjnhnlabpccgjaaGreatM38
import Derived.Test.YtjnhnlabpccgjaaGreatM13
import Derived.Test.YtjnhnlabpccgjaaGreatM02
import Derived.Deep.QuietTactic
import Derived.BigQuiet
import Derived.Test.YtjnhnlabpccgjaaGreatM39
import Derived.Test.YtjnhnlabpccgjaaGreatM18
import Derived.Test.YtjnhnlabpccgjaaGreatM37
import Derived.Test.YtjnhnlabpccgjaaGreatM22
import Derived.Test.YtjnhnlabpccgjaaGreatM04
namespace Go.Proofs.YtjnhnlabpccgjaaGreat
open Go.ChangeShapes Go.WideShapes Go.ChangeAt Go.RowKit
set_option linter.unusedVariables false
set_option linter.unusedSimpArgs false
def AQ (C:pF):List (Int×Value):=C.map fun p=>(p.1,(.int .i64 (p.2:Int):Value))
theorem Qo (C:pF) (j:Int):aj j (AQ C)=(aj j C).map fun n:Nat=>(.int .i64 (n:Int):Value):=yF (fun n:Nat=>(.int .i64 (n:Int):Value)) j C
theorem Aw (C:pF) (j:Int):(aj j (AQ C)).getD (.int .i64 0)= .int .i64 (iQ C j:Int):=by
 rw[Qo]
 unfold iQ
 cases aj j C<;>rfl
theorem Tn (C:pF) (k:Int):bM fQ k (.int .i64 ((iQ C k:Int)+1):Value) (AQ C)=AQ (lX C k):=by
 unfold AQ lX
 rw[M5 fQ (fun n:Nat=>(.int .i64 (n:Int):Value)) k (iQ C k+1) C]
 rfl
theorem Tp (C:pF):(AQ C).length=C.length:=List.length_map _
def iB (T:aA) (C:pF) (n:Nat) (id:Int) (cb:Nat) (w:World) (e:Ending) (w':World):Prop:=
 Keeps (fun b=>b=cb) w w'∧∃r:Bool,e= .returned (.bool r)∧(r=true↔gG T C n id)∧(r=true→∃C',aC fQ C'∧(∀j,iQ C' j=iQ C j+(kE T n id).count j)∧Bn T C'≤Bn T C+(aY T id).length∧C'.length≤sm C'∧MapAt aW w' cb (AQ C'))
theorem iB.Ay {T:aA} {C:pF} {n:Nat} {id:Int} {cb:Nat} {w w':World} (hk:Keeps (fun b=>b=cb) w w') (h:¬gG T C n id):iB T C n id cb w (.returned (.bool false)) w':=
 ⟨hk,false,rfl,⟨fun h'=>(by cases h'),fun h'=>absurd h' h⟩,fun h'=>(by cases h')⟩
def LkRel (T:aA) (C:pF) (n:Nat) (id:Int) (x:bq) (w:World) (nbk r cb:Nat) (wr:World):Prop:=
 ∃(left:Nm→Bool) (cnt:Nat) (C':pF),eG fM wr nbk r (dV x) left cnt∧kD T (n-1) C (doneN left x.names) C'∧(n=0→doneN left x.names=[])∧MapAt aW wr cb (AQ C')∧Bn T C'≤Bn T C+(doneN left x.names).length∧C'.length≤sm C'∧Keeps (fun b=>b=cb) w wr
theorem Tq {C:pF} (h:aC fQ C) (hl:C.length≤sm C) (k:Int):(lX C k).length≤sm (lX C k):=by
 rw[Ir h]
 unfold lX bM
 rw[qQ]
 have:(bF k C).length≤C.length:=List.length_filter_le _ _
 omega
theorem Qp (left:Nm→Bool) (l:List (Nm×Int)):(doneN left l).length≤l.length:=List.length_filter_le _ _
section
variable {g:Nat→Own} {D:Nat→Prop} {p mb:Nat} {ib nb:Int→Nat} {T:aA}
set_option maxRecDepth 100000 in
set_option maxHeartbeats 16000000 in
theorem Az (n:Nat) (pO:n≤8) (id:Int) (x:bq) (C:pF) (cb:Nat) (w:World) (h:aH g D w p mb ib nb T) (hcb:g cb= .none∧¬D cb) (hcw:cb<w.heap.size) (hP:qI T) (hx:aj id T=some x) (hk:x.kind=2)
  (hM:MapAt aW w cb (AQ C)) (hS:aC fQ C) (hCl:C.length≤sm C) (Mq:Bn T C+x.names.length≤1000000000000)
  (hrec:∀m,n=m+1→∀e∈x.names,bI T e.2=2→∀w1 C1,Keeps (fun b=>b=cb) w w1→MapAt aW w1 cb (AQ C1)→aC fQ C1→C1.length≤sm C1→Bn T C1+(aY T e.2).length≤1000000000000→Calls Tryz.prog 121 #[ptr p, .int .i64 e.2, .int .i64 (8-(m:Int)), .map (some cb)] w1 (iB T C1 m e.2 cb w1)):
  Calls Tryz.prog 121 #[ptr p, .int .i64 id, .int .i64 (8-(n:Int)), .map (some cb)] w (iB T C n id cb w):=by
 obtain⟨hc0,hpw,hmw⟩:=h.cell
 have hPI:=hP.get hx
 have qL:=hPI.ok.id
 have hok:aW.ok id:=qC qL.1 (by unfold wF at qL;dsimp only at qL;omega)
 obtain⟨c0,c1,c2,c3,c4,c5,c7,hiw⟩:=(h.item id x hx).cell
 have hget:aj id (T.map fun q=>(q.1,ptr (ib q.1)))=some (ptr (ib id)):=by rw[dN,hx];rfl
 have HG:=Lib.hid hget
 have lQ:=Lib.hid h.map
 have HH:=Lib.hid h
 have HREC:=Lib.hid hrec
 have HPI:=Lib.hid hPI
 have HX:=Lib.hid hx
 have HP:=Lib.hid hP
 have MK:=Lib.hid hM
 have YN:=Lib.hid hS
 have QF:=Lib.hid hCl
 have HPSI:=Lib.hid Mq
 have Z7:=Lib.hid hcb
 have hnn:aY T id=x.names:=gq hx
 have pJ:=Lib.hid hnn
 have e2:dU x (nb id)= .map (some (nb id)):=if_pos hk
 rw[e2]at c7
 have HN:=Lib.hid ((h.item id x hx).names hk)
 have hbw:=HN.out.lt
 have htn:=h.kZ id x hx hk
 have htm:=h.iH
 have htp:=h.nS
 have hne1:cb≠nb id:=fun e=>by rw[←e,hcb.1]at htn;cases htn
 have hne2:cb≠mb:=fun e=>by rw[←e,hcb.1]at htm;cases htm
 have hne3:cb≠p:=fun e=>by rw[←e,hcb.1]at htp;cases htp
 have BI:=Lib.hid hk
 have HAP:=Lib.hid (hPI.sorted.apart qK)
 clear hget hrec h hk e2 hPI qL hP hM hS hCl Mq hcb hnn htn htm htp hx
 go_enter Tryz.func121,Tryz.ntmps121
 go_wp2_with (first|(at_lookup;refine bW aW rfl _ _ 104 107 rfl Tryz.underlying104 (Tryz.cK _) rfl lQ.out id rfl hok ?_;rw[HG.out])|(at_range;refine mK fM rfl _ 110 3 rfl Tryz.underlying110 rfl HN.out ?_;intro w0 hR0 hB0 hs0))
 go_frame
 go_loopw [10,11,12] (fun _ _ _ wr=>LkRel T C n id x w (nb id) w.heap.size cb wr) (fun _ _ _ wr=>wr.rangeLeft (nb id) w.heap.size)
 case atStart=>
  have hnil:doneN (fun k=>(aj k (dV x)).isSome) x.names=[]:=Iq fun e he=>by
   rw[jM,aI qK HPI.out.sorted he];rfl
  refine⟨_,_,C,hR0,by rw[hnil];exact kD.nil YN.out,fun _=>hnil,MK.out.kept (hB0.block _ hcw),by rw[hnil];exact Nat.le_refl _,QF.out,(Keeps.below hB0).mono fun z hz hz'=>by omega⟩
 case round=>
  obtain⟨left,cnt,C1,hR,hD,hD0,hM1,hps,hl1,hK⟩:=hrel
  have HR:=Lib.hid hR
  have HD:=Lib.hid hD
  have HD0:=Lib.hid hD0
  have vR:=Lib.hid hM1
  have HPS:=Lib.hid hps
  have Df:=Lib.hid hl1
  have HK:=Lib.hid hK
  clear hR hD hD0 hM1 hps hl1 hK
  go_wp2_with (first|(at_next;refine nU fM rfl _ rfl rfl HR.out ?_ ?_))
  ·intro hdone
   have vJ:=Lib.hid hdone
   clear hdone
   go_wp2_with fail
   go_ret
   have hall:doneN left x.names=x.names:=Mg vJ.out
   have hd:=HD.out
   rw[hall]at hd
   refine⟨HK.out,true,rfl,?_⟩
   cases n with
   |zero=>
    have hnil:=HD0.out rfl
    rw[hall]at hnil
    have hnm:aY T id=[]:=pJ.out.trans hnil
    refine⟨⟨fun _=>⟨hnm,fun k hk=>(by unfold kE at hk;cases hk)⟩,fun _=>rfl⟩,fun _=>⟨C1,hd.sorted,fun j=> ?_,?_,Df.out,vR.out⟩⟩
    ·rw[hd.cnt j,hnil];rfl
    ·have:=HPS.out
     rw[hall,hnil]at this
     exact Nat.le_trans this (Nat.le_add_right _ _)
   |succ n=>
    rw[←pJ.out]at hd
    have hfin:=hd.all
    refine⟨⟨fun _=>hfin.1,fun _=>rfl⟩,fun _=>⟨C1,hd.sorted,hfin.2,?_,Df.out,vR.out⟩⟩
    have:=HPS.out
    rw[hall,←pJ.out]at this
    exact this
  ·intro k v w3 cnt1 NP hleft hg2 mo hlt hK1 hs1 hen
   rw[jM]at hg2
   cases hk2:aj k x.names with
   |none=>rw[hk2]at hg2;cases hg2
   |some j=>
    rw[hk2]at hg2
    cases hg2
    have hmem:=bC hk2
    have hjb:=HPI.out.ids _ hmem
    have qM:aW.ok j:=qC hjb.1 (by have:=hjb.2;dsimp only at this;omega)
    have hK3:Keeps (fun b=>b=cb) w w3:=HK.out.trans hK1 fun z hz (e:z=w.heap.size)=>by omega
    have hA3:=HH.out.keeps hK3 fun z hz (e:z=cb)=>by
     subst e
     rcases hz with hz|hz
     ·exact hz Z7.out.1
     ·exact Z7.out.2 hz
    obtain⟨hc3,hpw3,hmw3⟩:=hA3.cell
    have Cv:=Lib.hid hA3.map
    have tF:Hid (MapAt aW w3 cb (AQ C1)):=vR.out.kept (hK1.block _ (by have:=vR.out.lt;omega) (fun(e:cb=w.heap.size)=>by omega))
    have UJ:(k,j)∈aY T id:=by rw[pJ.out];exact hmem
    have u_:=Lib.hid UJ
    have xJ:=Lib.hid hlt
    have uJ:=Lib.hid hleft
    have HR1:=Lib.hid mo
    have UG:=Lib.hid hK3
    have Tt:=Lib.hid hmem
    have hrw:=mo.lt
    have e3:fM.val k= .string (strOf k):=rfl
    rw[e3]at hen⊢
    clear e3 hlt hleft mo hK3 hmem UJ hk2 hjb
    cases hy:aj j T with
    |none=>
     have Nj:Hid (aj j (T.map fun q=>(q.1,ptr (ib q.1)))=none):=by show _=_;rw[dN,hy];rfl
     have HF:Hid (¬gG T C n id):=by
      cases n with
      |zero=>exact wL u_.out
      |succ m=>exact FE u_.out (fun hh=>by have h9:=hh.1;dsimp only at h9;rw[hy]at h9;cases h9)
     clear hy
     go_wp2_with (at_lookup;refine aU aW rfl _ _ 104 107 rfl Tryz.underlying104 (Tryz.cK _) rfl Cv.out j rfl qM ?_;rw[Nj.out])
     go_ret
     exact iB.Ay UG.out HF.out
    |some y=>
     have Nj:Hid (aj j (T.map fun q=>(q.1,ptr (ib q.1)))=some (ptr (ib j))):=by show _=_;rw[dN,hy];rfl
     obtain⟨-,y1,-,-,-,-,-,hyw⟩:=(hA3.item j y hy).cell
     have HY:=Lib.hid hy
     clear hy hA3
     by_cases hj0:j=0
     ·have HF:Hid (¬gG T C n id):=by
       cases n with
       |zero=>exact wL u_.out
       |succ m=>exact FE u_.out (fun hh=>hh.2 hj0)
      have d1:(j==0)=true:=by simpa using hj0
      clear hj0
      go_wp2_with (at_lookup;refine aU aW rfl _ _ 104 107 rfl Tryz.underlying104 (Tryz.cK _) rfl Cv.out j rfl qM ?_;rw[Nj.out])
      go_ret
      exact iB.Ay UG.out HF.out
     ·have d1:(j==0)=false:=by simpa using hj0
      have DK:=Lib.hid hj0
      clear hj0
      by_cases hn0:n=0
      ·have HF:Hid (¬gG T C n id):=by
        subst hn0
        exact wL u_.out
       have d2:((8-(n:Int))==8)=true:=by rw[hn0];rfl
       clear hn0
       go_wp2_with (at_lookup;refine aU aW rfl _ _ 104 107 rfl Tryz.underlying104 (Tryz.cK _) rfl Cv.out j rfl qM ?_;rw[Nj.out])
       go_ret
       exact iB.Ay UG.out HF.out
      ·have d2:((8-(n:Int))==8)=false:=beq_eq_false_iff_ne.2 (by omega)
       obtain⟨m,hm⟩:∃m,n=m+1:=⟨n-1,by omega⟩
       have iM:=Lib.hid hm
       have hsum:IntKind.i64.wrap (8-(n:Int)+1)=8-(m:Int):=by rw[IntWalk.i64_in _ (by omega)];omega
       have hlD:Hid (kD T m C (doneN left x.names) C1):=by
        have:=HD.out
        rw[show n-1=m by omega]at this
        exact this
       clear hn0 hm
       have hd1:=t_ HAP.out Tt.out uJ.out
       have hdl:=hd1.length_eq
       rw[List.length_append,List.length_singleton]at hdl
       have VI:=Qp (fun z=>left z&& !decide (z=k)) x.names
       have UK:=Lib.hid hd1
       have hps:=HPS.out
       have Mq:=HPSI.out
       obtain⟨cN,Ga⟩:∃cN,cN=iQ C1 j:=⟨_,rfl⟩
       have hcs:=S9 HD.out.sorted j
       rw[←Ga]at hcs
       have hpp:sm C1≤Bn T C1:=by unfold Bn;omega
       have HGC:Hid ((aj j (AQ C1)).getD (.int .i64 0)= .int .i64 (cN:Int)):=by show _=_;rw[Aw,←Ga]
       have Mr:Hid (∀w',MapAt aW w' cb (bM aW.lt j (.int .i64 ((cN:Int)+1)) (AQ C1))→MapAt aW w' cb (AQ (lX C1 j))):=fun w' hm=>by
        have e9:bM aW.lt j (.int .i64 ((cN:Int)+1)) (AQ C1)=AQ (lX C1 j):=by rw[Ga];exact Tn C1 j
        rw[e9]at hm
        exact hm
       have Xd:Hid ((aj j (AQ (lX C1 j))).getD (.int .i64 0)= .int .i64 ((cN:Int)+1)):=by show _=_;rw[Aw,jG,if_pos rfl,←Ga];rfl
       have HLEN:Hid ((AQ C1).length<maxLen):=by
        show _<_
        rw[Tp]
        have:=Df.out
        unfold maxLen
        omega
       have HINC:=Lib.hid (Tq HD.out.sorted Df.out j)
       have e1:IntKind.i64.wrap ((cN:Int)+1)=(cN:Int)+1:=IntWalk.i64_in _ (by omega)
       have HCN:=Lib.hid Ga
       have Ug:Hid (∀w4,w3.mapTurned w4 cb→w4.cell? ⟨ib j,1,none⟩=some (.int .i64 y.kind)):=fun w4 hT=>by
        have hgi:=HH.out.nk j y HY.out
        have hne:ib j≠cb:=fun e=>by rw[e,Z7.out.1]at hgi;cases hgi
        exact(World.cell?_of_block (w:=w3) (w':=w4) (a:=⟨ib j,1,none⟩) (bX hT _ hyw hne)).trans y1
       have xQ:Hid (∀w4,w3.mapTurned w4 cb→Keeps (fun b=>b=cb) w w4∧eG fM w4 (nb id) w.heap.size (dV x) (fun z=>left z&& !decide (z=k)) cnt1):=fun w4 hT=>
        ⟨UG.out.trans (Keeps.turned hT) fun z _ hz=>hz,HR1.out.kept (bX hT _ hrw.1 (Ne.symm hne1)) (bX hT _ hrw.2.1 (by omega))⟩
       clear Ga hcs hpp hd1
       by_cases hkd:y.kind=2
       ·have g1:(y.kind==2)=true:=by simpa using hkd
        have hkj:bI T j=2:=by rw[dD HY.out];exact hkd
        by_cases hc0:cN=0
        ·have dgt:decide ((1:Int)<(cN:Int)+1)=false:=by simp;omega
         have hzc:iQ C1 j=0:=by rw[←HCN.out];exact hc0
         have Wx:=Ta (T:=T) HD.out.sorted (bC HY.out) hkd hzc
         have hnl:(aY T j).length≤65535:=by rw[gq HY.out];exact(HP.out.get HY.out).few
         have HQ:Hid (∀w4,w3.mapTurned w4 cb→MapAt aW w4 cb (AQ (lX C1 j))→Calls Tryz.prog 121 #[ptr p, .int .i64 j, .int .i64 (8-(m:Int)), .map (some cb)] w4 (iB T (lX C1 j) m j cb w4)):=fun w4 hT hM=>HREC.out m iM.out (k,j) Tt.out hkj w4 _ (xQ.out w4 hT).1 hM (Ao HD.out.sorted j) HINC.out (by dsimp only;omega)
         have HZC:=Lib.hid (And.intro hzc hkj)
         have HPD:=Lib.hid (And.intro Wx hnl)
         clear hkd hkj hc0 hzc Wx hnl
         go_wp2_with (first|(at_lookup;refine aU aW rfl _ _ 104 107 rfl Tryz.underlying104 (Tryz.cK _) rfl Cv.out j rfl qM ?_;rw[Nj.out])|(at_lookup;refine bW aW rfl _ _ 177 3 rfl Tryz.underlying177 (Tryz.jh _) rfl tF.out j rfl qM ?_;rw[HGC.out])|(at_mapUpdate;refine kH aW rfl _ _ _ 177 3 rfl Tryz.underlying177 rfl tF.out HLEN.out j (.int .i64 ((cN:Int)+1)) rfl rfl qM ?_;intro w4 CJ vk;have qD:=Lib.hid (Mr.out _ CJ);have yP:=Lib.hid vk;have hk4:=Ug.out w4 vk;clear CJ vk)|(at_lookup;refine bW aW rfl _ _ 177 3 rfl Tryz.underlying177 (Tryz.jh _) rfl qD.out j rfl qM ?_;rw[Xd.out]))
         (with_reducible refine(HQ.out _ yP.out qD.out).mono ?_)
         rintro e w5 ⟨vL,r,rfl,hiff,Xe⟩
         have Gd:=Lib.hid (xQ.out _ yP.out)
         have Et:=Lib.hid vL
         cases r with
         |false=>
          have HF:Hid (¬gG T C n id):=by
           have h9:=Qi (C:=C) (e:=(k,j)) (by rw[pJ.out];exact HAP.out) u_.out uJ.out (by rw[pJ.out];exact hlD.out) HZC.out.2 (fun hh=>by have:=hiff.2 hh;cases this)
           rw[←iM.out]at h9
           exact h9
          clear hiff Xe vL
          go_wp2_with fail
          go_ret
          exact iB.Ay (Gd.out.1.trans Et.out fun z _ hz=>hz) HF.out
         |true=>
          obtain⟨C2,hs2,hc2,hp2,hl2,hm2⟩:=Xe rfl
          have HD2:Hid (kD T m C (doneN (fun z=>left z&& !decide (z=k)) x.names) C2):=(hlD.out.dir (e:=(k,j)) (by dsimp only;rw[HY.out];rfl) DK.out HZC.out.2 HZC.out.1 hs2 hc2 (hiff.1 rfl)).perm UK.out
          have HP2:Hid (Bn T C2≤Bn T C+(doneN (fun z=>left z&& !decide (z=k)) x.names).length):=by
           have h8:=HPD.out
           show _≤_
           omega
          have HL2:=Lib.hid hl2
          have wQ:=Lib.hid hm2
          clear hs2 hc2 hp2 hl2 hm2 hiff Xe vL
          go_wp2_with fail
          go_roundw
          case rel=>exact⟨_,cnt1,C2,Gd.out.2.kept (Et.out.block _ Gd.out.2.lt.1 (Ne.symm hne1)) (Et.out.block _ Gd.out.2.lt.2.1 (by omega)),by rw[show n-1=m by have:=iM.out;omega];exact HD2.out,fun h0=>by have:=iM.out;omega,wQ.out,HP2.out,HL2.out,Gd.out.1.trans Et.out fun z _ hz=>hz⟩
          case measure=>
           have h4:=Gd.out.2.kept (w':=w5) (Et.out.block _ Gd.out.2.lt.1 (Ne.symm hne1)) (Et.out.block _ Gd.out.2.lt.2.1 (by omega))
           rw[h4.measure,HR.out.measure]
           exact xJ.out
        ·have dgt:decide ((1:Int)<(cN:Int)+1)=true:=by simp;omega
         have HF:Hid (¬gG T C n id):=by
          have h9:=Qh (C:=C) (n:=m) (e:=(k,j)) (by rw[pJ.out];exact HAP.out) u_.out uJ.out (by rw[pJ.out];exact hlD.out) hkj (by dsimp only;rw[jG,if_pos rfl,←HCN.out];omega)
          rw[←iM.out]at h9
          exact h9
         clear hkd hkj hc0
         go_wp2_with (first|(at_lookup;refine aU aW rfl _ _ 104 107 rfl Tryz.underlying104 (Tryz.cK _) rfl Cv.out j rfl qM ?_;rw[Nj.out])|(at_lookup;refine bW aW rfl _ _ 177 3 rfl Tryz.underlying177 (Tryz.jh _) rfl tF.out j rfl qM ?_;rw[HGC.out])|(at_mapUpdate;refine kH aW rfl _ _ _ 177 3 rfl Tryz.underlying177 rfl tF.out HLEN.out j (.int .i64 ((cN:Int)+1)) rfl rfl qM ?_;intro w4 CJ vk;have qD:=Lib.hid (Mr.out _ CJ);have yP:=Lib.hid vk;have hk4:=Ug.out w4 vk;clear CJ vk)|(at_lookup;refine bW aW rfl _ _ 177 3 rfl Tryz.underlying177 (Tryz.jh _) rfl qD.out j rfl qM ?_;rw[Xd.out]))
         go_ret
         exact iB.Ay (xQ.out _ yP.out).1 HF.out
       ·have g1:(y.kind==2)=false:=by simpa using hkd
        have HD2:Hid (kD T m C (doneN (fun z=>left z&& !decide (z=k)) x.names) (lX C1 j)):=(hlD.out.file (e:=(k,j)) (by dsimp only;rw[HY.out];rfl) DK.out (by dsimp only;rw[dD HY.out];exact hkd)).perm UK.out
        have HP2:Hid (Bn T (lX C1 j)≤Bn T C+(doneN (fun z=>left z&& !decide (z=k)) x.names).length):=by
         have h8:=S_ (T:=T) HD.out.sorted j
         show _≤_
         omega
        clear hkd
        go_wp2_with (first|(at_lookup;refine aU aW rfl _ _ 104 107 rfl Tryz.underlying104 (Tryz.cK _) rfl Cv.out j rfl qM ?_;rw[Nj.out])|(at_lookup;refine bW aW rfl _ _ 177 3 rfl Tryz.underlying177 (Tryz.jh _) rfl tF.out j rfl qM ?_;rw[HGC.out])|(at_mapUpdate;refine kH aW rfl _ _ _ 177 3 rfl Tryz.underlying177 rfl tF.out HLEN.out j (.int .i64 ((cN:Int)+1)) rfl rfl qM ?_;intro w4 CJ vk;have qD:=Lib.hid (Mr.out _ CJ);have yP:=Lib.hid vk;have hk4:=Ug.out w4 vk;clear CJ vk)|(at_lookup;refine bW aW rfl _ _ 177 3 rfl Tryz.underlying177 (Tryz.jh _) rfl qD.out j rfl qM ?_;rw[Xd.out]))
        have Gd:=Lib.hid (xQ.out _ yP.out)
        go_roundw
        case rel=>exact⟨_,cnt1,_,Gd.out.2,by rw[show n-1=m by have:=iM.out;omega];exact HD2.out,fun h0=>by have:=iM.out;omega,qD.out,HP2.out,HINC.out,Gd.out.1⟩
        case measure=>
         rw[Gd.out.2.measure,HR.out.measure]
         exact xJ.out
theorem Cw (cb:Nat) (hcb:g cb= .none∧¬D cb) (hP:qI T):∀(n:Nat) (hn:n≤8) (id:Int) (C:pF) (w:World),aH g D w p mb ib nb T→bI T id=2→MapAt aW w cb (AQ C)→aC fQ C→C.length≤sm C→Bn T C+(aY T id).length≤1000000000000→
  Calls Tryz.prog 121 #[ptr p, .int .i64 id, .int .i64 (8-(n:Int)), .map (some cb)] w (iB T C n id cb w)
 |0,hn,id,C,w,h,hk,hM,hS,hl,hp=>by
  obtain⟨x,hx,hxk⟩:=fu hk
  rw[gq hx]at hp
  exact Az 0 hn id x C cb w h hcb hM.lt hP hx hxk hM hS hl hp fun m e=>by omega
 |n+1,hn,id,C,w,h,hk,hM,hS,hl,hp=>by
  obtain⟨x,hx,hxk⟩:=fu hk
  rw[gq hx]at hp
  refine Az (n+1) hn id x C cb w h hcb hM.lt hP hx hxk hM hS hl hp fun m hm e he hke w1 C1 hK hM1 hS1 hl1 hp1=> ?_
  obtain rfl:m=n:=by omega
  exact Cw cb hcb hP m (by omega) e.2 C1 w1 (h.keeps hK fun z hz (e:z=cb)=>by
   subst e
   rcases hz with hz|hz
   ·exact hz hcb.1
   ·exact hcb.2 hz) hke hM1 hS1 hl1 hp1
end
section
variable {P:Program} {K:TypeId} {κ:Type} [DecidableEq κ] (F:vv P K κ)
variable {w:World} {ops:Array Oper} {rest:List Oper} {o:Oper} {a:Act} {Q:Exit→Act→World→Prop}
theorem Bo (hg:Region.wanted o (yielded ops a.tmps)=true) (m x v:Operand) (t e:TypeId) (hop:o.op=Op.insert t m x v) (ht:P.underlying t=some (.map K e))
  {b:Nat} {l:List (κ×Value)} (hm:a.eval m= .map (some b)) (hM:MapAt F w b l) (hn:l.length<maxLen) (k:κ) (val:Value) (hx:a.eval x=F.val k) (hv:a.eval v=val) (hok:F.ok k)
  (h:∀w',MapAt F w' b (bM F.lt k val l)→w.mapTurned w' b→wpList P ops Q rest (a.put o.dst undef) w'):wpList P ops Q (o::rest) a w:=by
 refine BigFrame.wpList_want hg fun K' hK=> ?_
 obtain⟨w',hrun,r1,r2⟩:=MapAt.oJ F ht hM hn k val hok
 unfold Oper.wp
 simp[execOp,hop,hm,hx,hv,hrun,Result.andThen]
 exact hK _ _ (h w' r1 r2)
theorem MapAt.Qq {t e:TypeId} (ht:P.underlying t=some (.map K e)) {z:Value} (hz:(zeroValue e).run P w= .ok z w) {b:Nat} {l:List (κ×Value)} (hM:MapAt F w b l) (k:κ) (hok:F.ok k):
  (Instr.lookup t (.map (some b)) (F.val k) false).run P w= .ok ((aj k l).getD z) w:=by
 obtain⟨v,ps,hrun,hv⟩:=World.ownsMap.lookup hM F.law ht hz (zd:= .held z) (zp:=[]) rfl (F.of k hok)
 rw[CF]at hv
 have hv':v=(aj k l).getD z:=by
  simp only[mg,Option.some.injEq,Prod.mk.injEq]at hv
  have:=hv.1
  cases hg':aj k l with
  |none=>rw[hg']at this;simpa using this
  |some u=>rw[hg']at this;simpa using this
 rw[hv']at hrun
 exact hrun
end
section
variable {g:Nat→Own} {D:Nat→Prop} {p mb:Nat} {ib nb:Int→Nat} {T:aA}
def Cx (T:aA) (q:Int×bq):Prop:=(((if q.1=0 then 1 else 0)+(kE T 8 0).count q.1:Nat):Int)=q.2.links∧¬(q.2.links=0∧q.2.closed=true)
def RtRel (T:aA) (ib:Int→Nat) (mb r:Nat) (w3 wr:World):Prop:=
 ∃(left:Int→Bool) (cnt:Nat),eG aW wr mb r (T.map fun q=>(q.1,ptr (ib q.1))) left cnt∧(∀q∈T,left q.1=false→Cx T q)∧Keeps (fun b=>b=r) w3 wr
set_option maxRecDepth 100000 in
set_option maxHeartbeats 16000000 in
theorem IQ (w:World) (h:aH g D w p mb ib nb T) (hP:qI T):
  Calls Tryz.prog 57 #[ptr p] w fun e w'=>Below w.heap.size w w'∧∃r:Bool,e= .returned (.bool r)∧(r=true↔jT T):=by
 obtain⟨hc0,hpw,hmw⟩:=h.cell
 have hok0:aW.ok 0:=qC (by omega) (by omega)
 have lQ:=Lib.hid h.map
 have HP:=Lib.hid hP
 have hlen:=hP.few
 cases hx:aj (0:Int) T with
 |none=>
  have HG:Hid (aj (0:Int) (T.map fun q=>(q.1,ptr (ib q.1)))=none):=by show _=_;rw[dN,hx];rfl
  have HF:Hid (¬jT T):=fun hR=>by
   have:=hR.1
   unfold bI at this
   rw[hx]at this
   cases this
  clear h hP hx hlen
  go_enter Tryz.func57,Tryz.ntmps57
  go_wp2_with (at_lookup;refine aU aW rfl _ _ 104 107 rfl Tryz.underlying104 (Tryz.cK _) rfl lQ.out 0 rfl hok0 ?_;rw[HG.out])
  go_ret
  exact⟨Below.refl _ _,false,rfl,⟨fun h=>(by cases h),fun h=>absurd h HF.out⟩⟩
 |some x=>
  have HG:Hid (aj (0:Int) (T.map fun q=>(q.1,ptr (ib q.1)))=some (ptr (ib 0))):=by show _=_;rw[dN,hx];rfl
  obtain⟨-,c1,-,-,-,-,-,hiw⟩:=(h.item 0 x hx).cell
  by_cases hk:x.kind=2
  ·have g1:(x.kind==2)=true:=by simpa using hk
   have g1':(x.kind !=2)=false:=by simpa using hk
   have hk0:bI T 0=2:=by rw[dD hx];exact hk
   by_cases h64:T.length≤64
   ·have Le:Hid ((T.map fun q=>(q.1,ptr (ib q.1))).length=T.length):=List.length_map _
    obtain⟨n,hn⟩:∃n,n=T.length:=⟨_,rfl⟩
    have d1:decide ((64:Int)<(n:Int))=false:=by simp;omega
    have HN:=Lib.hid hn
    have HH:=Lib.hid h
    have XE:=Lib.hid hk0
    have hmm:= @run_makeMap Tryz.prog
    have Uq:=Lib.hid (MapAt.made (F:=aW) w)
    clear h hP hx hk hk0 hn
    go_enter Tryz.func57,Tryz.ntmps57
    go_wp2_with (first|(at_lookup;refine aU aW rfl _ _ 104 107 rfl Tryz.underlying104 (Tryz.cK _) rfl lQ.out 0 rfl hok0 ?_;rw[HG.out])|(at_len;refine jW aW rfl _ 104 107 rfl Tryz.underlying104 rfl lQ.out ?_;rw[Le.out,←HN.out])|(refine Bo aW rfl _ _ _ 177 3 rfl Tryz.underlying177 rfl Uq.out (by unfold maxLen;simp) 0 (.int .i64 1) rfl rfl hok0 ?_;intro w1 hM1 hT1;have vR:=Lib.hid hM1;have HT1:=Lib.hid hT1;clear hM1 hT1))
    have hb1:Below w.heap.size w w1:=(wall w (.map #[] 0)).trans ((Keeps.turned HT1.out).fD (by simp) fun z hz (e:z=w.heap.size)=>by omega)
    have HB1:=Lib.hid hb1
    have hm1:MapAt aW w1 w.heap.size (AQ [(0,1)]):=vR.out
    have hA1:=HH.out.below hb1 (Nat.le_refl _)
    have hgc:g w.heap.size= .none:=Classical.byContradiction fun hn=>by have:=HH.out.low _ hn;omega
    have hdc:¬D w.heap.size:=fun hn=>by have:=HH.out.mh _ hn;omega
    have hnl:(aY T 0).length≤65535:=by
     obtain⟨z,hz,-⟩:=fu XE.out
     rw[gq hz]
     exact(HP.out.get hz).few
    have Mq:Bn T [(0,1)]+(aY T 0).length≤1000000000000:=by
     have h1:zc T [(0,1)]≤T.length:=List.countP_le_length
     have h2:sm [(0,1)]=1:=rfl
     unfold Bn
     omega
    have hlk:=Cw w.heap.size ⟨hgc,hdc⟩ HP.out 8 (by omega) 0 [(0,1)] w1 hA1 XE.out hm1 (List.pairwise_singleton _ _) (by decide) Mq
    rw[show(8-((8:Nat):Int))=0 from rfl]at hlk
    have uq:=Lib.hid hlk
    clear hb1 hm1 hA1 hgc hdc hnl Mq hlk hmm
    go_wp2_with fail
    (with_reducible refine uq.out.mono ?_)
    rintro e w2 ⟨hK2,r,rfl,hiff,hok⟩
    have HIFF:=Lib.hid hiff
    have HB2:=Lib.hid (HB1.out.trans (hK2.fD HB1.out.size fun z hz (e:z=w.heap.size)=>by omega))
    cases r with
    |false=>
     clear hK2 hiff hok
     go_wp2_with fail
     go_ret
     exact⟨HB2.out,false,rfl,⟨fun h=>(by cases h),fun h=>by have:=HIFF.out.2 h.2.2.1;cases this⟩⟩
    |true=>
     obtain⟨C2,-,hc2,-,-,hm2⟩:=hok rfl
     have RL:=Lib.hid (hiff.1 rfl)
     have DY:=Lib.hid hc2
     have wQ:=Lib.hid hm2
     have HA2:=Lib.hid (HH.out.below HB2.out (Nat.le_refl _))
     have UL:=Lib.hid HA2.out.map
     have hcw2:=hm2.lt
     have hmw2:=UL.out.lt
     have hq2:=HA2.out.cell.1
     have hcm:w.heap.size≠mb:=by omega
     clear hc2 hm2 hK2 hiff hok
     go_wp2_with (at_range;refine mK aW rfl _ 104 107 rfl Tryz.underlying104 rfl UL.out ?_;intro w3 tO hB3 hs3)
     go_frame
     have HB3:=Lib.hid hB3
     have HR3:=Lib.hid tO
     clear hB3 tO
     go_loopw [6,7] (fun _ _ wr=>RtRel T ib mb w2.heap.size w3 wr) (fun _ _ wr=>wr.rangeLeft mb w2.heap.size)
     case atStart=>
      refine⟨_,_,HR3.out,fun q hq hl=> ?_,Keeps.refl _ _⟩
      rw[dN,aI bH HP.out.sorted hq]at hl
      cases hl
     case round=>
      obtain⟨left,cnt,hR,hall,hK⟩:=hrel
      have HR:=Lib.hid hR
      have zG:=Lib.hid hall
      have HK:=Lib.hid hK
      clear hR hall hK
      go_wp2_with (first|(at_next;refine nU aW rfl _ rfl rfl HR.out ?_ ?_))
      ·intro hdone
       have vJ:=Lib.hid hdone
       clear hdone
       go_wp2_with fail
       go_ret
       refine⟨HB2.out.trans ((HB3.out.mono HB2.out.size).trans (HK.out.fD (by omega) fun z hz (e:z=w2.heap.size)=>by have:=HB2.out.size;omega)),true,rfl,⟨fun _=>⟨XE.out,h64,RL.out,fun q hq=>zG.out q hq (vJ.out _)⟩,fun _=>rfl⟩⟩
      ·intro k v w4 cnt1 NP hleft hg2 mo hlt hK1 hs1 hen
       rw[dN]at hg2
       cases hy:aj k T with
       |none=>rw[hy]at hg2;cases hg2
       |some y=>
        rw[hy]at hg2
        cases hg2
        have hK4:Keeps (fun b=>b=w2.heap.size) w3 w4:=HK.out.trans hK1 fun z _ hz=>hz
        have hs3':=HK.out.size
        have FY:aH g D w4 p mb ib nb T:=(HA2.out.below HB3.out (Nat.le_refl _)).keeps hK4 fun z hz (e:z=w2.heap.size)=>by
         rcases hz with hz|hz
         ·have:=HA2.out.low z hz;omega
         ·have:=HA2.out.mh z hz;omega
        obtain⟨-,-,y2,-,-,y5,-,hyw⟩:=(FY.item k y hy).cell
        have Er:MapAt aW w4 w.heap.size (AQ C2):=(wQ.out.kept (HB3.out.block _ hcw2)).kept (hK4.block _ (by omega) (by omega))
        obtain⟨cN,Ga⟩:∃cN,cN=iQ C2 k:=⟨_,rfl⟩
        have hlk:∀n,(Instr.lookup 177 (.map (some w.heap.size)) (.int .i64 k) false).run Tryz.prog (w4.drewN n)= .ok (.int .i64 (cN:Int)) (w4.drewN n):=fun n=>by
         have h9:=MapAt.Qq (F:=aW) (w:=w4.drewN n) (t:=177) Tryz.underlying177 (Tryz.jh _) (Er.kept rfl) k NP
         rw[Aw,←Ga]at h9
         exact h9
        have HIS:Hid ((Cx T (k,y)↔(cN:Int)=y.links∧¬(y.links=0∧y.closed=true))):=by
         unfold Cx
         dsimp only
         rw[Ga,DY.out k,FH]
         exact Lib.hid Iff.rfl
        have Tt:Hid ((k,y)∈T):=bC hy
        have HR1:=Lib.hid mo
        have xJ:=Lib.hid hlt
        have FZ:=Lib.hid hK4
        have Jq:Hid (∀w',Keeps (fun b=>b=w2.heap.size) w3 w'→Below w.heap.size w w'):=fun w' hK=>HB2.out.trans ((HB3.out.mono HB2.out.size).trans (hK.fD (by have:=HB2.out.size;omega) fun z hz (e:z=w2.heap.size)=>by have:=HB2.out.size;omega))
        have HGT:=Lib.hid (fun z (hz:aj z T=some y)=>hz)
        have e3:aW.val k= .int .i64 k:=rfl
        rw[e3]at hen⊢
        have HY:=Lib.hid hy
        clear e3 mo hlt hK4 FY Er Ga hy hK1 hs1
        have UM:Hid (¬Cx T (k,y)→¬jT T):=fun hn hR=>hn (hR.2.2.2 _ Tt.out)
        have F8:Hid (Cx T (k,y)→∀q∈T,(left q.1&& !decide (q.1=k))=false→Cx T q):=fun hrow q hq hl=>by
         by_cases hqk:q.1=k
         ·have h9:=aI bH HP.out.sorted hq
          rw[hqk,HY.out]at h9
          have e9:y=q.2:=Option.some.inj h9
          have:q=(k,y):=Prod.ext hqk e9.symm
          rw[this]
          exact hrow
         ·refine zG.out q hq ?_
          simpa[hqk]using hl
        by_cases hcl:(cN:Int)=y.links
        ·have d2:((cN:Int)==y.links)=true:=by simpa using hcl
         have d3:((cN:Int) !=y.links)=false:=by simpa using hcl
         by_cases hl0:y.links=0
         ·have d4:(y.links==0)=true:=by simpa using hl0
          cases XW:y.closed with
          |true=>
           rw[XW]at y5
           have HF:=Lib.hid (UM.out fun hr=>(HIS.out.1 hr).2 ⟨hl0,XW⟩)
           clear hcl hl0 XW
           go_wp2_with fail
           go_quiet (fail)
           go_wp2_with fail
           go_ret
           exact⟨Jq.out _ (Keeps.trans FZ.out (fp':=fun b=>b=w2.heap.size) ⟨rfl,rfl,rfl,Nat.le_refl _,fun _ _ _=>rfl⟩ fun z _ hz=>hz),false,rfl,⟨fun h=>(by cases h),fun h=>absurd h HF.out⟩⟩
          |false=>
           rw[XW]at y5
           have Vq:=Lib.hid (F8.out (HIS.out.2 ⟨hcl,fun hh=>by rw[XW]at hh;cases hh.2⟩))
           clear hcl hl0 XW
           go_wp2_with fail
           go_quiet (fail)
           go_wp2_with fail
           go_roundw
           case rel=>exact⟨_,cnt1,HR1.out.kept rfl rfl,Vq.out,Keeps.trans FZ.out (fp':=fun b=>b=w2.heap.size) ⟨rfl,rfl,rfl,Nat.le_refl _,fun _ _ _=>rfl⟩ fun z _ hz=>hz⟩
           case measure=>
            have h4:=HR1.out.kept (w':=w4.drewN nq) rfl rfl
            rw[h4.measure,HR.out.measure]
            exact xJ.out
         ·have d4:(y.links==0)=false:=by simpa using hl0
          have Vq:=Lib.hid (F8.out (HIS.out.2 ⟨hcl,fun hh=>hl0 hh.1⟩))
          clear hcl hl0
          go_wp2_with fail
          go_quiet (fail)
          go_wp2_with fail
          go_roundw
          case rel=>exact⟨_,cnt1,HR1.out.kept rfl rfl,Vq.out,Keeps.trans FZ.out (fp':=fun b=>b=w2.heap.size) ⟨rfl,rfl,rfl,Nat.le_refl _,fun _ _ _=>rfl⟩ fun z _ hz=>hz⟩
          case measure=>
           have h4:=HR1.out.kept (w':=w4.drewN nq) rfl rfl
           rw[h4.measure,HR.out.measure]
           exact xJ.out
        ·have d2:((cN:Int)==y.links)=false:=by simpa using hcl
         have d3:((cN:Int) !=y.links)=true:=by simpa using hcl
         have HF:=Lib.hid (UM.out fun hr=>hcl (HIS.out.1 hr).1)
         clear hcl
         go_wp2_with fail
         go_quiet (fail)
         go_wp2_with fail
         go_ret
         exact⟨Jq.out _ (Keeps.trans FZ.out (fp':=fun b=>b=w2.heap.size) ⟨rfl,rfl,rfl,Nat.le_refl _,fun _ _ _=>rfl⟩ fun z _ hz=>hz),false,rfl,⟨fun h=>(by cases h),fun h=>absurd h HF.out⟩⟩
   ·have Le:Hid ((T.map fun q=>(q.1,ptr (ib q.1))).length=T.length):=List.length_map _
    obtain⟨n,hn⟩:∃n,n=T.length:=⟨_,rfl⟩
    have d1:decide ((64:Int)<(n:Int))=true:=by simp;omega
    have HN:=Lib.hid hn
    have HF:Hid (¬jT T):=fun hR=>by
     have:=hR.2.1
     omega
    clear h hP hx hk hk0 hn h64
    go_enter Tryz.func57,Tryz.ntmps57
    go_wp2_with (first|(at_lookup;refine aU aW rfl _ _ 104 107 rfl Tryz.underlying104 (Tryz.cK _) rfl lQ.out 0 rfl hok0 ?_;rw[HG.out])|(at_len;refine jW aW rfl _ 104 107 rfl Tryz.underlying104 rfl lQ.out ?_;rw[Le.out,←HN.out]))
    go_ret
    exact⟨Below.refl _ _,false,rfl,⟨fun h=>(by cases h),fun h=>absurd h HF.out⟩⟩
  ·have g1:(x.kind==2)=false:=by simpa using hk
   have g1':(x.kind !=2)=true:=by simpa using hk
   have HF:Hid (¬jT T):=fun hR=>by
    have:=hR.1
    rw[dD hx]at this
    exact hk this
   clear h hP hx hk hlen
   go_enter Tryz.func57,Tryz.ntmps57
   go_wp2_with (at_lookup;refine aU aW rfl _ _ 104 107 rfl Tryz.underlying104 (Tryz.cK _) rfl lQ.out 0 rfl hok0 ?_;rw[HG.out])
   go_ret
   exact⟨Below.refl _ _,false,rfl,⟨fun h=>(by cases h),fun h=>absurd h HF.out⟩⟩
end
theorem Cy (b:List UInt8):0≤(bP b).1.id∧(bP b).1.id≤65535:=by
 unfold bP
 split
 ·exact(qp b).id
 ·exact⟨by decide,by decide⟩
theorem Tv {s:Rd} {q:(Int×bq)×Rd} (h:gY s=some q):0≤q.1.1∧q.1.1≤65535:=by
 unfold gY at h
 dsimp only at h
 split at h
 ·cases h
 ·split at h
  ·split at h
   ·cases h;exact Cy _
   ·cases h
  ·split at h
   ·cases h
   ·cases h;exact Cy _
def nR (bs:List UInt8) (w:World) (e:Ending) (w':World):Prop:=
 (∃T p,parseM bs=some T∧jT T∧e= .returned (.tuple #[ptr p, .int .i64 0])∧qy w p T w')∨((∀T,parseM bs=some T→¬jT T)∧e= .returned (.tuple #[.pointer none, .int .i64 12])∧Below w.heap.size w w')
theorem nR.no {bs:List UInt8} {w w':World} (h:∀T,parseM bs=some T→¬jT T) (hb:Below w.heap.size w w'):nR bs w (.returned (.tuple #[.pointer none, .int .i64 12])) w':= .inr ⟨h,rfl,hb⟩
def LdRel (Dr:Nat→Prop) (w w1:World) (x p mb cnt:Nat) (s0:Rd) (lv iv:Value) (wr:World):Prop:=
 ∃(k:Nat) (sr:Rd) (last:Int) (acc:aA) (g:Nat→Own) (D:Nat→Prop) (ib nb:Int→Nat),iv= .int .i64 k∧k≤cnt∧lv= .int .i64 last∧-1≤last∧last≤65535∧nP (cnt-k) sr last acc=nP cnt s0 (-1) []∧(∀q∈acc,q.1≤last)∧acc.length=k∧
  bA Dr wr x sr∧aH g D wr p mb ib nb acc∧(∀b,g b≠ .none∨D b→w1.heap.size≤b)∧Below w.heap.size w wr
theorem IU {w1 w2:World} (hw:w2=(w1.alloc (.map #[] 0)).alloc (.cells #[.map (some w1.heap.size)] 106)):aH (fun b=>if b=w1.heap.size+1 then .head else if b=w1.heap.size then .items else .none) (fun _=>False) w2 (w1.heap.size+1) w1.heap.size (fun _=>0) (fun _=>0) []:=by
 have hs:w2.heap.size=w1.heap.size+2:=by rw[hw];simp
 refine⟨?_,?_,fun k x h=>(by cases h),by simp,by simp,fun k x h=>(by cases h),fun k x h=>(by cases h),fun b h=>h.elim,fun b hb=> ?_,fun b h=>h.elim⟩
 ·rw[hw]
  have:=(MapKept.heap_alloc (w1.alloc (.map #[] 0)) (.cells #[.map (some w1.heap.size)] 106)).1
  rw[World.size_alloc]at this
  exact this
 ·rw[hw]
  exact(MapAt.made (F:=aW) w1).kept ((wall _ _).block _ (by simp))
 ·by_cases h1:b=w1.heap.size+1
  ·omega
  ·by_cases h2:b=w1.heap.size
   ·omega
   ·rw[if_neg h1,if_neg h2]at hb;exact absurd rfl hb
set_option maxRecDepth 100000 in
set_option maxHeartbeats 16000000 in
theorem Ms {S:Nat→Prop} (a:Option Addr) (n c:Nat) (bs:List UInt8) (w:World) (hm:n≤100000000) (hr:ah S w a n (bs.map bv)):
  Calls Tryz.prog 17 #[.slice a n c] w (nR bs w):=by
 have HN:=Lib.hid (oI a n c bs w hm hr)
 have hmm:= @run_makeMap Tryz.prog
 clear hr
 go_enter Tryz.func17,Tryz.ntmps17
 go_wp2_with fail
 (with_reducible refine HN.out.mono ?_)
 rintro e w1 ⟨x,rfl,hx,mo,hb1⟩
 have HX:=Lib.hid hx
 have HB1:=Lib.hid hb1
 have hxw:=mo.lt
 have HR1:=Lib.hid mo
 clear hx hb1 mo HN
 go_wp2_with fail
 obtain⟨w2,hw2⟩:∃w2,w2=(w1.alloc (.map #[] 0)).alloc (.cells #[.map (some w1.heap.size)] 106):=⟨_,rfl⟩
 rw[←hw2]
 have hb2:Below w1.heap.size w1 w2:=by rw[hw2];exact(wall w1 _).trans ((wall _ _).mono (by simp))
 have HT2:=Lib.hid (IU hw2)
 have hs2:w2.heap.size=w1.heap.size+2:=by rw[hw2];simp
 have HB2:=Lib.hid hb2
 obtain⟨Dr,hDr⟩:∃Dr:Nat→Prop,Dr=fun b=>w.heap.size≤b∧b<x:=⟨_,rfl⟩
 have HDR:=Lib.hid (fun b (hb:Dr b)=>(by rw[hDr]at hb;exact hb:w.heap.size≤b∧b<x))
 rw[←hDr]at HR1
 have HR2:=Lib.hid (HR1.out.below hb2 (Nat.le_refl _))
 have HS:=Lib.hid (nQ HR2.out)
 obtain⟨cnt,hcnt⟩:∃cnt:Nat,(aT (bs,0) 2).1=(cnt:Int):=⟨(aT (bs,0) 2).1.toNat,by have:=dS (bs,0) 2;omega⟩
 have hcb:cnt<65536:=by
  have h1:=dS (bs,0) 2
  have:(256:Int)^2=65536:=rfl
  omega
 obtain⟨s0,hs0⟩:∃t,t=(aT (bs,0) 2).2:=⟨_,rfl⟩
 rw[hcnt,←hs0]at HS
 have HPA:Hid (parseM bs=match nP cnt s0 (-1) []with|none=>none|some q=>if mO q.2=0 then some q.1 else none):=by
  show _=_
  unfold parseM
  rw[hcnt,←hs0,Int.toNat_natCast]
  rfl
 clear hw2 hb2 hDr hcnt hs0 hmm
 go_wp2_with fail
 (with_reducible refine HS.out.mono ?_)
 rintro e w3 ⟨rfl,tO,hK3⟩
 have HR3:=Lib.hid tO
 have HB3:Hid (Below w.heap.size w w3):=HB1.out.trans ((HB2.out.mono HB1.out.size).trans (rQ hK3 HX.out (by have:=HB1.out.size;omega)))
 have HT3:=Lib.hid (HT2.out.keeps hK3 fun z hz (e:z=x)=>by
  subst e
  rcases hz with hz|hz
  ·rw[if_neg (by omega),if_neg (by omega)]at hz
   exact hz rfl
  ·exact hz)
 clear tO hK3 HS HR2 HT2
 go_wp2_with fail
 go_loopw [6,7,8,16] (fun lv _ _ iv wr=>LdRel Dr w w1 x (w1.heap.size+1) w1.heap.size cnt s0 lv iv wr) (fun _ _ _ iv _=>cnt-(intOf iv).toNat)
 case atStart=>
  refine⟨0,s0,-1,[],_,_,_,_,rfl,Nat.zero_le _,rfl,by omega,by omega,rfl,fun q hq=>(by cases hq),rfl,HR3.out,HT3.out,fun b hb=> ?_,HB3.out⟩
  rcases hb with hb|hb
  ·refine Classical.byContradiction fun hn=> ?_
   rw[if_neg (by omega),if_neg (by omega)]at hb
   exact hb rfl
  ·exact hb.elim
 case round=>
  obtain⟨k,sr,last,acc,g,D,ib,nb,rfl,hk,rfl,hl0,hl1,hrd,hal,hac,hRr,hTr,hnew,hB⟩:=hrel
  have PO:=Lib.hid hrd
  have MR:=Lib.hid hal
  have XV:=Lib.hid hac
  have HRR:=Lib.hid hRr
  have KE:=Lib.hid hTr
  have Mt:=Lib.hid hnew
  have HB:=Lib.hid hB
  clear hrd hal hac hRr hTr hnew hB
  by_cases hlt:k<cnt
  ·have HI:=Lib.hid (Mk HRR.out)
   go_wp2_with fail
   (with_reducible refine HI.out.mono ?_)
   rintro e w4 ⟨hK4,Er⟩
   have kG:Hid (Below w.heap.size w w4):=HB.out.trans (rQ hK4 HX.out HB.out.size)
   cases hq:gY sr with
   |none=>
    rw[hq]at Er
    obtain⟨v,rfl⟩:=Er
    have HF:Hid (∀T,parseM bs=some T→¬jT T):=fun T hT=>by
     rw[HPA.out,←PO.out,show cnt-k=(cnt-(k+1))+1 by omega,xq hq]at hT
     cases hT
    clear hq hK4 HI
    go_wp2_with fail
    go_ret2
    exact nR.no HF.out kG.out
   |some q=>
    rw[hq]at Er
    obtain⟨i,nn,D3,rfl,DT,hI4,hi1,hi2,hn1,hd3⟩:=Er
    obtain⟨q0,q1⟩:=Tv hq
    obtain⟨c0,-,-,-,-,-,-,hiw⟩:=hI4.cell
    by_cases hle:q.1.1≤last
    ·have HF:Hid (∀T,parseM bs=some T→¬jT T):=fun T hT=>by
      rw[HPA.out,←PO.out,show cnt-k=(cnt-(k+1))+1 by omega,om hq,if_pos hle]at hT
      cases hT
     have d1:decide (q.1.1≤last)=true:=by simpa using hle
     clear hq hK4 DT hI4 hn1 hd3 HI hle
     go_wp2_with fail
     go_ret2
     exact nR.no HF.out kG.out
    ·have d1:decide (q.1.1≤last)=false:=by simpa using hle
     have hxg:g x= .none:=Classical.byContradiction fun hn=>by have:=Mt.out x (.inl hn);omega
     have hxd:¬D x:=fun hn=>by have:=Mt.out x (.inr hn);omega
     have vk:aH g D w4 (w1.heap.size+1) w1.heap.size ib nb acc:=KE.out.keeps hK4 fun z hz (e:z=x)=>by
      subst e
      rcases hz with hz|hz
      ·exact hz hxg
      ·exact hxd hz
     obtain⟨hc4,hpw4,hmw4⟩:=vk.cell
     have hokq:aW.ok q.1.1:=qC q0 (by omega)
     have hlast:∀y∈acc,y.1≠q.1.1∧fQ q.1.1 y.1=false:=fun y hy=>by
      have h9:=MR.out y hy
      exact⟨by omega,decide_eq_false (by omega)⟩
     have Mr:Hid (bM fQ q.1.1 q.1.2 acc=acc++[q.1]):=Cu fQ q.1.2 hlast
     have KI:Hid (aj q.1.1 acc=none):=f_.2 fun y hy=>(hlast y hy).1
     have HLEN:Hid ((acc.map fun q=>(q.1,ptr (ib q.1))).length<maxLen):=by
      show _<_
      rw[List.length_map,XV.out]
      unfold maxLen
      omega
     have qD:=Lib.hid vk.map
     have yP:=Lib.hid vk
     have HQ:=Lib.hid hq
     have FZ:=Lib.hid hK4
     have HR4:=Lib.hid DT
     have HI4:=Lib.hid hI4
     have HI1:=Lib.hid (And.intro hi1 hi2)
     have Bf:=Lib.hid hn1
     have HD3:=Lib.hid hd3
     have vH:=Lib.hid hle
     have hs4:=hK4.size
     clear hq hK4 DT hI4 hn1 hd3 HI hle vk hlast hxg hxd
     obtain⟨qk,hqk⟩:∃qk,qk=q.1.1:=⟨_,rfl⟩
     rw[←hqk]at c0 d1 hokq Mr KI HI4 vH q0 q1
     have HQK:=Lib.hid hqk
     clear hqk
     go_wp2_with (at_mapUpdate;refine kH aW rfl _ _ _ 104 107 rfl Tryz.underlying104 rfl qD.out HLEN.out qk (ptr i) rfl rfl hokq ?_;intro w5 hM5 Qz;have DU:=Lib.hid hM5;have AO:=Lib.hid Qz;clear hM5 Qz)
     go_roundw
     case rel=>
      have hs5:=iC AO.out
      have hn1:=Bf.out
      have hi1':=HI1.out.1
      have hi2':=HI1.out.2
      have hnone:∀b,wr.heap.size≤b→g b= .none∧¬D b:=fun b hb=>⟨Classical.byContradiction fun hn=>by have:=KE.out.low b hn;omega,fun hn=>by have:=KE.out.mh b hn;omega⟩
      have hmr:=KE.out.cell.2.2
      have hkeep:∀b,b<w4.heap.size→b≠w1.heap.size→w5.heap[b]? =w4.heap[b]? :=fun b hb hne=>bX AO.out b hb hne
      have hi5:iq D3 w5 qk i nn q.1.2:=HI4.out.move (by omega) (hkeep _ (by omega) (by omega)) (fun hk2=>hkeep _ (by have:=(hn1 hk2).2.1;omega) (by have:=(hn1 hk2).1;omega)) fun b hb hbw=>⟨hb,hkeep b hbw (by have:=(HD3.out b hb).1;omega)⟩
      have X_:=yP.out.add2 (w':=w5) (D2:=D3) (k:=qk) (x:=q.1.2) (i:=i) (n:=nn) (hnone i (by omega)) (fun hk2=>hnone nn (hn1 hk2).1) (fun hk2=>(hn1 hk2).2.2) (by omega) (fun hk2=>by have:=(hn1 hk2).2.1;omega) KI.out DU.out (by omega) (fun b hb _ hne=>hkeep b hb hne) hi5 (fun b hb=>by
       obtain⟨e1,e2,e3,e4⟩:=HD3.out b hb
       exact⟨(hnone b e1).1,by omega,e3,e4⟩)
      rw[Mr.out]at X_
      refine⟨k+1,q.2,qk,acc++[q.1],_,_,_,_,by go_num,by omega,rfl,by omega,by omega,?_,fun y hy=> ?_,by rw[List.length_append,XV.out];rfl,?_,X_,fun b hb=> ?_,?_⟩
      ·rw[←PO.out,show cnt-k=(cnt-(k+1))+1 by omega,om HQ.out,if_neg (by rw[←HQK.out];have:=vH.out;omega),←HQK.out]
      ·rcases List.mem_append.1 hy with h9|h9
       ·have:=MR.out y h9
        have:=vH.out
        omega
       ·simp only[List.mem_singleton]at h9
        rw[h9,←HQK.out]
        exact Int.le_refl _
      ·exact HR4.out.kept (by omega) (hkeep x (by have:=HR4.out.lt;omega) (by omega)) fun b hb hbw=>hkeep b hbw (by have:=HDR.out b hb;omega)
      ·have hw1r:w1.heap.size≤wr.heap.size:=by omega
       rcases hb with hb|hb
       ·by_cases e1:b=i
        ·omega
        ·by_cases e2:b=nn∧q.1.2.kind=2
         ·have:=(hn1 e2.2).1;omega
         ·rw[if_neg e1,if_neg e2]at hb
          exact Mt.out b (.inl hb)
       ·rcases hb with hb|hb
        ·exact Mt.out b (.inr hb)
        ·have:=(HD3.out b hb).1;omega
      ·exact kG.out.trans ((Keeps.turned AO.out).fD (by have:=kG.out.size;omega) fun z hz (e:z=w1.heap.size)=>by have:=HB1.out.size;omega)
     case measure=>simp[intOf];omega
  ·obtain rfl:k=cnt:=by omega
   have HE:=Lib.hid (DJ HRR.out)
   by_cases hz:mO sr=0
   ·have hpa:parseM bs=some acc:=by
     rw[HPA.out,←PO.out,Nat.sub_self,oh]
     dsimp only
     rw[if_pos hz]
    have Tf:=Lib.hid (IQ wr KE.out (wH hpa).2)
    have HPB:=Lib.hid hpa
    rw[hz]at HE
    clear hz hpa
    go_wp2_with fail
    (with_reducible refine HE.out.mono ?_)
    rintro e _ ⟨rfl,rfl⟩
    go_wp2_with fail
    (with_reducible refine Tf.out.mono ?_)
    rintro e w4 ⟨hb4,r,rfl,hiff⟩
    have kG:=Lib.hid hb4
    cases r with
    |true=>
     have HRI:=Lib.hid (hiff.1 rfl)
     clear hiff hb4
     go_wp2_with fail
     go_ret2
     exact .inl ⟨acc,_,HPB.out,HRI.out,rfl,g,D,w1.heap.size,ib,nb,KE.out.below kG.out (Nat.le_refl _),fun b hb=>by have:=Mt.out b (.inl hb);have:=HB1.out.size;omega,fun b hb=>by have:=Mt.out b (.inr hb);have:=HB1.out.size;omega,HB.out.trans (kG.out.mono HB.out.size)⟩
    |false=>
     have HRI:Hid (∀T,parseM bs=some T→¬jT T):=fun T hT hR=>by
      rw[HPB.out]at hT
      cases hT
      have:=hiff.2 hR
      cases this
     clear hiff hb4
     go_wp2_with fail
     go_ret2
     exact nR.no HRI.out (HB.out.trans (kG.out.mono HB.out.size))
   ·have d1:(mO sr !=0)=true:=by simpa using hz
    have HF:Hid (∀T,parseM bs=some T→¬jT T):=fun T hT=>by
     rw[HPA.out,←PO.out,Nat.sub_self,oh]at hT
     dsimp only at hT
     rw[if_neg hz]at hT
     cases hT
    clear hz
    go_wp2_with fail
    (with_reducible refine HE.out.mono ?_)
    rintro e _ ⟨rfl,rfl⟩
    go_wp2_with fail
    go_ret2
    exact nR.no HF.out HB.out
theorem qy.froz {W w w':World} {o:Mark} {p:Nat} {T:aA} (h:qy w p T w') (hM:Marks W o w):fH o 0 w' p T:=by
 obtain⟨g,D,mb,ib,nb,hA,hg,hD,hb⟩:=h
 have h0:∀b,w.heap.size≤b→o b=0:=fun b hb'=>Decidable.byContradiction fun h9=>by have:=(hM.new b h9).2;omega
 exact⟨g,D,mb,ib,nb,hA,fun b hb'=>h0 b (hg b hb'),fun b hb'=>h0 b (hD b hb')⟩
theorem qy.below {w w':World} {p:Nat} {T:aA} (h:qy w p T w'):Below w.heap.size w w':=by
 obtain⟨g,D,mb,ib,nb,hA,hg,hD,hb⟩:=h
 exact hb
section
variable {W w:World} {o:Mark} {p:Nat} {T:aA}
theorem qy.mark {w':World} (h:qy w p T w') (hM:Marks W o w) (j:Nat):∃o',Step o (fun k=>k=j) w o' w'∧fH o' j w' p T:=by
 obtain⟨g,D,mb,ib,nb,hA,hg,hD,hb⟩:=h
 obtain⟨o',hs,h1,h2⟩:=jd hM j (fun b=>g b≠ .none) (fun b hb'=>⟨hg b hb',hA.low b hb'⟩) hb
 refine⟨o',hs,g,D,mb,ib,nb,hA,fun b hb'=>h1 b hb',fun b hb'=> ?_⟩
 rw[h2 b (by rw[hA.data b hb'];simp)]
 exact Decidable.byContradiction fun h9=>by have:=(hM.new b h9).2;have:=hD b hb';omega
end
theorem IV {S S':Nat→Prop} (a a':Option Addr) (n n' c c':Nat) (bs:List UInt8) (w:World) (h:ah S w a n (bs.map bv)) (h':ah S' w a' n' (bs.map bv)):
  Calls Tryz.prog 100 #[.slice a n c, .slice a' n' c'] w fun e w'=>e= .returned (.bool true)∧w=w':=by
 have hc1:=fK (c:=c) h
 have hc2:=fK (c:=c') h'
 clear h h'
 go_enter Tryz.func100,Tryz.ntmps100
 go_wp2_with fail
 go_ret
 exact⟨rfl,rfl⟩
structure DL (o:Mark) (j:Nat) (w:World) (x:Nat) (s:Rd):Prop where
 at_:∃D,bA D w x s∧o x=j∧∀b,D b→o b=0
theorem DL.step {o o':Mark} {I:Nat→Prop} {j:Nat} {w w':World} {x:Nat} {s:Rd} (h:DL o j w x s) (hi:¬I 0) (hij:¬I j) (hs:Step o I w o' w'):DL o' j w' x s:=by
 obtain⟨D,h1,h2,h3⟩:=h.at_
 exact⟨D,h1.kept hs.keep.size (hs.block h1.lt (by rw[h2];exact hij)) (fun b hb hbw=>hs.block hbw (by rw[h3 b hb];exact hi)),(hs.old x h1.lt).trans h2,fun b hb=>(hs.old b (h1.low b hb)).trans (h3 b hb)⟩
theorem DL.grow {W:World} {o:Mark} {j:Nat} {w w':World} {x:Nat} {s:Rd} (h:DL o j w x s) (hM:Marks W o w) (hb:Below w.heap.size w w'):DL o j w' x s:=
 h.step (I:=fun _=>False) (fun e=>e) (fun e=>e) (Step.grow hM hb)
theorem yD {W w w':World} {o:Mark} {j x:Nat} (hM:Marks W o w) (hx:o x=j) (hK:Keeps (fun b=>b=x) w w'):Step o (fun k=>k=j) w o w':=
 ⟨fun _ _=>rfl,fun b hb hn=>by have:=(hM.new b hn).2;omega,hK.mono fun z _ (hz:z=x)=>by rw[hz];exact hx⟩
section
variable {W w:World} {o:Mark} {i j s p x:Nat} {S:jc} {T:aA} {sr:Rd}
theorem DN (h:DL o j w x sr) (hM:Marks W o w) {n:Int} {s':Rd} (he:aT sr 8=(n,s')):Calls Tryz.prog 46 #[ptr x] w fun e w'=>e= .returned (.int .u64 n)∧DL o j w' x s'∧Step o (fun k=>k=j) w o w':=by
 obtain⟨D,h1,h2,h3⟩:=h.at_
 refine(JU h1).mono ?_
 rintro e w' ⟨he',hR,hK⟩
 rw[he]at he' hR
 exact⟨he',⟨D,hR,h2,h3⟩,yD hM h2 hK⟩
theorem Tw (h:DL o j w x sr) (hM:Marks W o w) {n:Int} {s':Rd} (he:aT sr 1=(n,s')):Calls Tryz.prog 48 #[ptr x] w fun e w'=>e= .returned (.int .i64 n)∧DL o j w' x s'∧Step o (fun k=>k=j) w o w':=by
 obtain⟨D,h1,h2,h3⟩:=h.at_
 refine(DI h1).mono ?_
 rintro e w' ⟨he',hR,hK⟩
 rw[he]at he' hR
 exact⟨he',⟨D,hR,h2,h3⟩,yD hM h2 hK⟩
def UN (o:Mark) (j:Nat) (w:World) (x:Nat) (bs:List UInt8) (s':Rd) (e:Ending) (w':World):Prop:=
 ∃a c,e= .returned (.slice a bs.length c)∧kV bs.length c∧ah (fun b=>o b=0∧b<w'.heap.size) w' a bs.length (bs.map bv)∧DL o j w' x s'∧Step o (fun k=>k=j) w o w'
theorem FN (h:DL o j w x sr) (hM:Marks W o w) {bs:List UInt8} {s':Rd} (he:aF sr=(bs,s')):Calls Tryz.prog 47 #[ptr x] w (UN o j w x bs s'):=by
 obtain⟨D,h1,h2,h3⟩:=h.at_
 refine(uZ h1).mono ?_
 rintro e w' ⟨a,c,he',hc,hr,hR,hK⟩
 rw[he]at he' hc hr hR
 exact⟨a,c,he',hc,hr.mono fun b hb=>⟨Decidable.byContradiction fun h9=>by have:=(hM.new b h9).2;omega,hb.2⟩,⟨D,hR,h2,h3⟩,yD hM h2 hK⟩
theorem Xf (h:DL o j w x sr) (hM:Marks W o w) (n:Int) (hn0:0≤n) (hn1:n≤9223372036854775807) {bs:List UInt8} {s':Rd} (he:iy sr n=(bs,s')):Calls Tryz.prog 98 #[ptr x, .int .i64 n] w (UN o j w x bs s'):=by
 obtain⟨D,h1,h2,h3⟩:=h.at_
 refine(IB h1 n hn0 hn1).mono ?_
 rintro e w' ⟨a,c,he',hc,hr,hR,hK⟩
 rw[he]at he' hc hr hR
 exact⟨a,c,he',hc,hr.mono fun b hb=>⟨Decidable.byContradiction fun h9=>by have:=(hM.new b h9).2;omega,hb.2⟩,⟨D,hR,h2,h3⟩,yD hM h2 hK⟩
theorem Tx (h:DL o j w x sr):Calls Tryz.prog 99 #[ptr x] w fun e w'=>e= .returned (.int .i64 (iA sr:Int))∧w=w':=by
 obtain⟨D,h1,h2,h3⟩:=h.at_
 exact JV h1
theorem Xg (h:DL o j w x sr):Calls Tryz.prog 50 #[ptr x] w fun e w'=>e= .returned (.int .i64 (mO sr))∧w=w':=by
 obtain⟨D,h1,h2,h3⟩:=h.at_
 exact DJ h1
theorem Xh {Q:Nat→Prop} (hM:Marks W o w) (j:Nat) (a:Option Addr) (n c:Nat) (bs:List UInt8) (hm:n≤100000000) (hr:ah Q w a n (bs.map bv)):Calls Tryz.prog 45 #[.slice a n c] w fun e w'=>∃x o',e= .returned (ptr x)∧DL o' j w' x (bs,0)∧Step o (fun k=>k=j) w o' w':=by
 refine(oI a n c bs w hm hr).mono ?_
 rintro e w' ⟨x,rfl,hx,hR,hb⟩
 obtain⟨o',hs,h1,h2⟩:=jd hM j (fun b=>b=x) (w':=w') (fun b hb'=>by subst hb';exact⟨hx,hR.lt⟩) hb
 refine⟨x,o',rfl,⟨_,hR,h1 x rfl,fun b hb'=> ?_⟩,hs⟩
 rw[h2 b (fun e=>by subst e;omega)]
 exact Decidable.byContradiction fun h9=>by have:=(hM.new b h9).2;omega
end
end Go.Proofs.YtjnhnlabpccgjaaGreat
