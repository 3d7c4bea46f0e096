/- tree: links. tree: right. -/
import Derived.Test.YtmabllemjkcobaaGreatDoorM46
import Derived.Test.YtmabllemjkcobaaGreatDoorM16
import Derived.Test.YtmabllemjkcobaaGreatDoorM02
import Derived.Deep.QuietTactic
import Derived.BigQuiet
namespace Go.Proofs.YtmabllemjkcobaaGreatDoor
open Go.ChangeShapes Go.WideShapes Go.ChangeAt Go.RowKit
set_option linter.unusedVariables false
set_option linter.unusedSimpArgs false
def za (C:o_):List (Int×Value):=C.map fun p=>(p.1,(.int .i64 (p.2:Int):Value))
theorem OO (C:o_) (j:Int):ah j (za C)=(ah j C).map fun n:Nat=>(.int .i64 (n:Int):Value):=xq (fun n:Nat=>(.int .i64 (n:Int):Value)) j C
theorem yU (C:o_) (j:Int):(ah j (za C)).getD (.int .i64 0)= .int .i64 (iN C j:Int):=by
 rw[OO]
 unfold iN
 cases ah j C<;>rfl
theorem Rn (C:o_) (k:Int):cO jw k (.int .i64 ((iN C k:Int)+1):Value) (za C)=za (lW C k):=by
 unfold za lW
 rw[Lb jw (fun n:Nat=>(.int .i64 (n:Int):Value)) k (iN C k+1) C]
 rfl
theorem Ro (C:o_):(za C).length=C.length:=List.length_map _
def iE (T:aK) (C:o_) (n:Nat) (id:Int) (cb:Nat) (w:World) (e:Ending) (w':World):Prop:=
 Keeps (fun b=>b=cb) w w'∧∃r:Bool,e= .returned (.bool r)∧(r=true↔gH T C n id)∧(r=true→∃C',aN jw C'∧(∀j,iN C' j=iN C j+(oo T n id).count j)∧zG T C'≤zG T C+(aM T id).length∧C'.length≤sm C'∧MapAt aP w' cb (za C'))
theorem iE.yV {T:aK} {C:o_} {n:Nat} {id:Int} {cb:Nat} {w w':World} (hk:Keeps (fun b=>b=cb) w w') (h:¬gH T C n id):iE T C n id cb w (.returned (.bool false)) w':=
 ⟨hk,false,rfl,⟨fun h'=>(by cases h'),fun h'=>absurd h' h⟩,fun h'=>(by cases h')⟩
def X6 (T:aK) (C:o_) (n:Nat) (id:Int) (x:eB) (w:World) (Zg r cb:Nat) (wr:World):Prop:=
 ∃(left:Nm→Bool) (cnt:Nat) (C':o_),dZ bV wr Zg r (bC x) left cnt∧j5 T (n-1) C (doneN left x.names) C'∧(n=0→doneN left x.names=[])∧MapAt aP wr cb (za C')∧zG T C'≤zG T C+(doneN left x.names).length∧C'.length≤sm C'∧Keeps (fun b=>b=cb) w wr
theorem Rp {C:o_} (h:aN jw C) (hl:C.length≤sm C) (k:Int):(lW C k).length≤sm (lW C k):=by
 rw[Gf h]
 unfold lW cO
 rw[qB]
 have:(bI k C).length≤C.length:=List.length_filter_le _ _
 omega
theorem OP (left:Nm→Bool) (l:List (Nm×Int)):(doneN left l).length≤l.length:=List.length_filter_le _ _
section
variable {g:Nat→Own} {D:Nat→Prop} {p mb:Nat} {ib nb:Int→Nat} {T:aK}
set_option maxRecDepth 100000 in
set_option maxHeartbeats 16000000 in
theorem yX (n:Nat) (nD:n≤8) (id:Int) (x:eB) (C:o_) (cb:Nat) (w:World) (h:aC g D w p mb ib nb T) (hcb:g cb= .none∧¬D cb) (hcw:cb<w.heap.size) (hP:wz T) (hx:ah id T=some x) (hk:x.kind=2)
  (hM:MapAt aP w cb (za C)) (hS:aN jw C) (X7:C.length≤sm C) (KR:zG T C+x.names.length≤1000000000000)
  (hrec:∀m,n=m+1→∀e∈x.names,bB T e.2=2→∀w1 C1,Keeps (fun b=>b=cb) w w1→MapAt aP w1 cb (za C1)→aN jw C1→C1.length≤sm C1→zG T C1+(aM T e.2).length≤1000000000000→Calls Tryz.prog 208 #[ptr p, .int .i64 e.2, .int .i64 (8-(m:Int)), .map (some cb)] w1 (iE T C1 m e.2 cb w1)):
  Calls Tryz.prog 208 #[ptr p, .int .i64 id, .int .i64 (8-(n:Int)), .map (some cb)] w (iE T C n id cb w):=by
 obtain⟨hc0,hpw,hmw⟩:=h.cell
 have YU:=hP.get hx
 have lS:=YU.ok.id
 have hok:aP.ok id:=gB lS.1 (by unfold vD at lS;dsimp only at lS;omega)
 obtain⟨c0,c1,c2,c3,c4,c5,c7,hiw⟩:=(h.item id x hx).cell
 have hget:ah id (T.map fun q=>(q.1,ptr (ib q.1)))=some (ptr (ib id)):=by rw[bZ,hx];rfl
 have HG:=Lib.hid hget
 have fU:=Lib.hid h.map
 have HH:=Lib.hid h
 have HREC:=Lib.hid hrec
 have HPI:=Lib.hid YU
 have HX:=Lib.hid hx
 have HP:=Lib.hid hP
 have KZ:=Lib.hid hM
 have WB:=Lib.hid hS
 have Ce:=Lib.hid X7
 have HPSI:=Lib.hid KR
 have HCB:=Lib.hid hcb
 have hnn:aM T id=x.names:=fq hx
 have gF:=Lib.hid hnn
 have e2:dH x (nb id)= .map (some (nb id)):=if_pos hk
 rw[e2]at c7
 have HN:=Lib.hid ((h.item id x hx).names hk)
 have hbw:=HN.out.lt
 have htn:=h.kD id x hx hk
 have htm:=h.iG
 have htp:=h.nC
 have hne1:cb≠nb id:=fun e=>by rw[←e,hcb.1]at htn;cases htn
 have hne2:cb≠mb:=fun e=>by rw[←e,hcb.1]at htm;cases htm
 have hne3:cb≠p:=fun e=>by rw[←e,hcb.1]at htp;cases htp
 have yZ:=Lib.hid hk
 have Vp:=Lib.hid (YU.sorted.apart uD)
 clear hget hrec h hk e2 YU lS hP hM hS X7 KR hcb hnn htn htm htp hx
 go_enter Tryz.func208,Tryz.ntmps208
 go_wp2_with (first|(at_lookup;refine aJ aP rfl _ _ 95 88 rfl Tryz.underlying95 (Tryz.aQ _) rfl fU.out id rfl hok ?_;rw[HG.out])|(at_range;refine ku bV rfl _ 92 3 rfl Tryz.underlying92 rfl HN.out ?_;intro w0 hR0 hB0 hs0))
 go_frame
 go_loopw [10,11,12] (fun _ _ _ wr=>X6 T C n id x w (nb id) w.heap.size cb wr) (fun _ _ _ wr=>wr.rangeLeft (nb id) w.heap.size)
 case atStart=>
  have hnil:doneN (fun k=>(ah k (bC x)).isSome) x.names=[]:=FZ fun e he=>by
   rw[dK,aY uD HPI.out.sorted he];rfl
  refine⟨_,_,C,hR0,by rw[hnil];exact j5.nil WB.out,fun _=>hnil,KZ.out.kept (hB0.block _ hcw),by rw[hnil];exact Nat.le_refl _,Ce.out,(Keeps.below hB0).mono fun z hz hz'=>by omega⟩
 case round=>
  obtain⟨left,cnt,C1,hR,hD,hD0,hM1,hps,hl1,hK⟩:=hrel
  have HR:=Lib.hid hR
  have HD:=Lib.hid hD
  have HD0:=Lib.hid hD0
  have jB:=Lib.hid hM1
  have HPS:=Lib.hid hps
  have ED:=Lib.hid hl1
  have HK:=Lib.hid hK
  clear hR hD hD0 hM1 hps hl1 hK
  go_wp2_with (first|(at_next;refine lM bV rfl _ rfl rfl HR.out ?_ ?_))
  ·intro hdone
   have G8:=Lib.hid hdone
   clear hdone
   go_wp2_with fail
   go_ret
   have hall:doneN left x.names=x.names:=Ke G8.out
   have hd:=HD.out
   rw[hall]at hd
   refine⟨HK.out,true,rfl,?_⟩
   cases n with
   |zero=>
    have hnil:=HD0.out rfl
    rw[hall]at hnil
    have hnm:aM T id=[]:=gF.out.trans hnil
    refine⟨⟨fun _=>⟨hnm,fun k hk=>(by unfold oo at hk;cases hk)⟩,fun _=>rfl⟩,fun _=>⟨C1,hd.sorted,fun j=> ?_,?_,ED.out,jB.out⟩⟩
    ·rw[hd.cnt j,hnil];rfl
    ·have:=HPS.out
     rw[hall,hnil]at this
     exact Nat.le_trans this (Nat.le_add_right _ _)
   |succ n=>
    rw[←gF.out]at hd
    have hfin:=hd.all
    refine⟨⟨fun _=>hfin.1,fun _=>rfl⟩,fun _=>⟨C1,hd.sorted,hfin.2,?_,ED.out,jB.out⟩⟩
    have:=HPS.out
    rw[hall,←gF.out]at this
    exact this
  ·intro k v w3 cnt1 Jl hleft hg2 kP hlt hK1 hs1 hen
   rw[dK]at hg2
   cases hk2:ah k x.names with
   |none=>rw[hk2]at hg2;cases hg2
   |some j=>
    rw[hk2]at hg2
    cases hg2
    have hmem:=dB hk2
    have hjb:=HPI.out.ids _ hmem
    have qp:aP.ok j:=gB hjb.1 (by have:=hjb.2;dsimp only at this;omega)
    have hK3:Keeps (fun b=>b=cb) w w3:=HK.out.trans hK1 fun z hz (e:z=w.heap.size)=>by omega
    have hA3:=HH.out.keeps hK3 fun z hz (e:z=cb)=>by
     subst e
     rcases hz with hz|hz
     ·exact hz HCB.out.1
     ·exact HCB.out.2 hz
    obtain⟨hc3,hpw3,hmw3⟩:=hA3.cell
    have AL:=Lib.hid hA3.map
    have xO:Hid (MapAt aP w3 cb (za C1)):=jB.out.kept (hK1.block _ (by have:=jB.out.lt;omega) (fun(e:cb=w.heap.size)=>by omega))
    have SL:(k,j)∈aM T id:=by rw[gF.out];exact hmem
    have mF:=Lib.hid SL
    have oK:=Lib.hid hlt
    have wS:=Lib.hid hleft
    have HR1:=Lib.hid kP
    have SI:=Lib.hid hK3
    have Rq:=Lib.hid hmem
    have hrw:=kP.lt
    have e3:bV.val k= .string (strOf k):=rfl
    rw[e3]at hen⊢
    clear e3 hlt hleft kP hK3 hmem SL hk2 hjb
    cases hy:ah j T with
    |none=>
     have rC:Hid (ah j (T.map fun q=>(q.1,ptr (ib q.1)))=none):=by show _=_;rw[bZ,hy];rfl
     have HF:Hid (¬gH T C n id):=by
      cases n with
      |zero=>exact vG mF.out
      |succ m=>exact Ef mF.out (fun hh=>by have h9:=hh.1;dsimp only at h9;rw[hy]at h9;cases h9)
     clear hy
     go_wp2_with (at_lookup;refine aB aP rfl _ _ 95 88 rfl Tryz.underlying95 (Tryz.aQ _) rfl AL.out j rfl qp ?_;rw[rC.out])
     go_ret
     exact iE.yV SI.out HF.out
    |some y=>
     have rC:Hid (ah j (T.map fun q=>(q.1,ptr (ib q.1)))=some (ptr (ib j))):=by show _=_;rw[bZ,hy];rfl
     obtain⟨-,y1,-,-,-,-,-,hyw⟩:=(hA3.item j y hy).cell
     have HY:=Lib.hid hy
     clear hy hA3
     by_cases hj0:j=0
     ·have HF:Hid (¬gH T C n id):=by
       cases n with
       |zero=>exact vG mF.out
       |succ m=>exact Ef mF.out (fun hh=>hh.2 hj0)
      have d1:(j==0)=true:=by simpa using hj0
      clear hj0
      go_wp2_with (at_lookup;refine aB aP rfl _ _ 95 88 rfl Tryz.underlying95 (Tryz.aQ _) rfl AL.out j rfl qp ?_;rw[rC.out])
      go_ret
      exact iE.yV SI.out HF.out
     ·have d1:(j==0)=false:=by simpa using hj0
      have BN:=Lib.hid hj0
      clear hj0
      by_cases hn0:n=0
      ·have HF:Hid (¬gH T C n id):=by
        subst hn0
        exact vG mF.out
       have d2:((8-(n:Int))==8)=true:=by rw[hn0];rfl
       clear hn0
       go_wp2_with (at_lookup;refine aB aP rfl _ _ 95 88 rfl Tryz.underlying95 (Tryz.aQ _) rfl AL.out j rfl qp ?_;rw[rC.out])
       go_ret
       exact iE.yV SI.out HF.out
      ·have d2:((8-(n:Int))==8)=false:=beq_eq_false_iff_ne.2 (by omega)
       obtain⟨m,hm⟩:∃m,n=m+1:=⟨n-1,by omega⟩
       have Gu:=Lib.hid hm
       have hsum:IntKind.i64.wrap (8-(n:Int)+1)=8-(m:Int):=by rw[IntWalk.i64_in _ (by omega)];omega
       have YV:Hid (j5 T m C (doneN left x.names) C1):=by
        have:=HD.out
        rw[show n-1=m by omega]at this
        exact this
       clear hn0 hm
       have hd1:=sD Vp.out Rq.out wS.out
       have hdl:=hd1.length_eq
       rw[List.length_append,List.length_singleton]at hdl
       have hdle:=OP (fun z=>left z&& !decide (z=k)) x.names
       have SN:=Lib.hid hd1
       have hps:=HPS.out
       have KR:=HPSI.out
       obtain⟨cN,Pj⟩:∃cN,cN=iN C1 j:=⟨_,rfl⟩
       have hcs:=Q8 HD.out.sorted j
       rw[←Pj]at hcs
       have hpp:sm C1≤zG T C1:=by unfold zG;omega
       have HGC:Hid ((ah j (za C1)).getD (.int .i64 0)= .int .i64 (cN:Int)):=by show _=_;rw[yU,←Pj]
       have nE:Hid (∀w',MapAt aP w' cb (cO aP.lt j (.int .i64 ((cN:Int)+1)) (za C1))→MapAt aP w' cb (za (lW C1 j))):=fun w' hm=>by
        have e9:cO aP.lt j (.int .i64 ((cN:Int)+1)) (za C1)=za (lW C1 j):=by rw[Pj];exact Rn C1 j
        rw[e9]at hm
        exact hm
       have U0:Hid ((ah j (za (lW C1 j))).getD (.int .i64 0)= .int .i64 ((cN:Int)+1)):=by show _=_;rw[yU,jQ,if_pos rfl,←Pj];rfl
       have HLEN:Hid ((za C1).length<maxLen):=by
        show _<_
        rw[Ro]
        have:=ED.out
        unfold maxLen
        omega
       have X8:=Lib.hid (Rp HD.out.sorted ED.out j)
       have e1:IntKind.i64.wrap ((cN:Int)+1)=(cN:Int)+1:=IntWalk.i64_in _ (by omega)
       have HCN:=Lib.hid Pj
       have Vl:Hid (∀w4,w3.mapTurned w4 cb→w4.cell? ⟨ib j,1,none⟩=some (.int .i64 y.kind)):=fun w4 hT=>by
        have hgi:=HH.out.lZ j y HY.out
        have hne:ib j≠cb:=fun e=>by rw[e,HCB.out.1]at hgi;cases hgi
        exact(World.cell?_of_block (w:=w3) (w':=w4) (a:=⟨ib j,1,none⟩) (bQ hT _ hyw hne)).trans y1
       have oQ:Hid (∀w4,w3.mapTurned w4 cb→Keeps (fun b=>b=cb) w w4∧dZ bV w4 (nb id) w.heap.size (bC x) (fun z=>left z&& !decide (z=k)) cnt1):=fun w4 hT=>
        ⟨SI.out.trans (Keeps.turned hT) fun z _ hz=>hz,HR1.out.kept (bQ hT _ hrw.1 (Ne.symm hne1)) (bQ hT _ hrw.2.1 (by omega))⟩
       clear Pj hcs hpp hd1
       by_cases hkd:y.kind=2
       ·have g1:(y.kind==2)=true:=by simpa using hkd
        have hkj:bB T j=2:=by rw[bR HY.out];exact hkd
        by_cases hc0:cN=0
        ·have dgt:decide ((1:Int)<(cN:Int)+1)=false:=by simp;omega
         have hzc:iN C1 j=0:=by rw[←HCN.out];exact hc0
         have hpd:=Q_ (T:=T) HD.out.sorted (dB HY.out) hkd hzc
         have hnl:(aM T j).length≤65535:=by rw[fq HY.out];exact(HP.out.get HY.out).few
         have HQ:Hid (∀w4,w3.mapTurned w4 cb→MapAt aP w4 cb (za (lW C1 j))→Calls Tryz.prog 208 #[ptr p, .int .i64 j, .int .i64 (8-(m:Int)), .map (some cb)] w4 (iE T (lW C1 j) m j cb w4)):=fun w4 hT hM=>HREC.out m Gu.out (k,j) Rq.out hkj w4 _ (oQ.out w4 hT).1 hM (yO HD.out.sorted j) X8.out (by dsimp only;omega)
         have HZC:=Lib.hid (And.intro hzc hkj)
         have HPD:=Lib.hid (And.intro hpd hnl)
         clear hkd hkj hc0 hzc hpd hnl
         go_wp2_with (first|(at_lookup;refine aB aP rfl _ _ 95 88 rfl Tryz.underlying95 (Tryz.aQ _) rfl AL.out j rfl qp ?_;rw[rC.out])|(at_lookup;refine aJ aP rfl _ _ 246 3 rfl Tryz.underlying246 (Tryz.dU _) rfl xO.out j rfl qp ?_;rw[HGC.out])|(at_mapUpdate;refine gT aP rfl _ _ _ 246 3 rfl Tryz.underlying246 rfl xO.out HLEN.out j (.int .i64 ((cN:Int)+1)) rfl rfl qp ?_;intro w4 oG kN;have lT:=Lib.hid (nE.out _ oG);have Ew:=Lib.hid kN;have hk4:=Vl.out w4 kN;clear oG kN)|(at_lookup;refine aJ aP rfl _ _ 246 3 rfl Tryz.underlying246 (Tryz.dU _) rfl lT.out j rfl qp ?_;rw[U0.out]))
         (with_reducible refine(HQ.out _ Ew.out lT.out).mono ?_)
         rintro e w5 ⟨PZ,r,rfl,hiff,U1⟩
         have EG:=Lib.hid (oQ.out _ Ew.out)
         have Db:=Lib.hid PZ
         cases r with
         |false=>
          have HF:Hid (¬gH T C n id):=by
           have h9:=OI (C:=C) (e:=(k,j)) (by rw[gF.out];exact Vp.out) mF.out wS.out (by rw[gF.out];exact YV.out) HZC.out.2 (fun hh=>by have:=hiff.2 hh;cases this)
           rw[←Gu.out]at h9
           exact h9
          clear hiff U1 PZ
          go_wp2_with fail
          go_ret
          exact iE.yV (EG.out.1.trans Db.out fun z _ hz=>hz) HF.out
         |true=>
          obtain⟨C2,hs2,hc2,hp2,hl2,hm2⟩:=U1 rfl
          have HD2:Hid (j5 T m C (doneN (fun z=>left z&& !decide (z=k)) x.names) C2):=(YV.out.dir (e:=(k,j)) (by dsimp only;rw[HY.out];rfl) BN.out HZC.out.2 HZC.out.1 hs2 hc2 (hiff.1 rfl)).perm SN.out
          have HP2:Hid (zG T C2≤zG T C+(doneN (fun z=>left z&& !decide (z=k)) x.names).length):=by
           have h8:=HPD.out
           show _≤_
           omega
          have HL2:=Lib.hid hl2
          have vO:=Lib.hid hm2
          clear hs2 hc2 hp2 hl2 hm2 hiff U1 PZ
          go_wp2_with fail
          go_roundw
          case rel=>exact⟨_,cnt1,C2,EG.out.2.kept (Db.out.block _ EG.out.2.lt.1 (Ne.symm hne1)) (Db.out.block _ EG.out.2.lt.2.1 (by omega)),by rw[show n-1=m by have:=Gu.out;omega];exact HD2.out,fun h0=>by have:=Gu.out;omega,vO.out,HP2.out,HL2.out,EG.out.1.trans Db.out fun z _ hz=>hz⟩
          case measure=>
           have h4:=EG.out.2.kept (w':=w5) (Db.out.block _ EG.out.2.lt.1 (Ne.symm hne1)) (Db.out.block _ EG.out.2.lt.2.1 (by omega))
           rw[h4.measure,HR.out.measure]
           exact oK.out
        ·have dgt:decide ((1:Int)<(cN:Int)+1)=true:=by simp;omega
         have HF:Hid (¬gH T C n id):=by
          have h9:=OH (C:=C) (n:=m) (e:=(k,j)) (by rw[gF.out];exact Vp.out) mF.out wS.out (by rw[gF.out];exact YV.out) hkj (by dsimp only;rw[jQ,if_pos rfl,←HCN.out];omega)
          rw[←Gu.out]at h9
          exact h9
         clear hkd hkj hc0
         go_wp2_with (first|(at_lookup;refine aB aP rfl _ _ 95 88 rfl Tryz.underlying95 (Tryz.aQ _) rfl AL.out j rfl qp ?_;rw[rC.out])|(at_lookup;refine aJ aP rfl _ _ 246 3 rfl Tryz.underlying246 (Tryz.dU _) rfl xO.out j rfl qp ?_;rw[HGC.out])|(at_mapUpdate;refine gT aP rfl _ _ _ 246 3 rfl Tryz.underlying246 rfl xO.out HLEN.out j (.int .i64 ((cN:Int)+1)) rfl rfl qp ?_;intro w4 oG kN;have lT:=Lib.hid (nE.out _ oG);have Ew:=Lib.hid kN;have hk4:=Vl.out w4 kN;clear oG kN)|(at_lookup;refine aJ aP rfl _ _ 246 3 rfl Tryz.underlying246 (Tryz.dU _) rfl lT.out j rfl qp ?_;rw[U0.out]))
         go_ret
         exact iE.yV (oQ.out _ Ew.out).1 HF.out
       ·have g1:(y.kind==2)=false:=by simpa using hkd
        have HD2:Hid (j5 T m C (doneN (fun z=>left z&& !decide (z=k)) x.names) (lW C1 j)):=(YV.out.file (e:=(k,j)) (by dsimp only;rw[HY.out];rfl) BN.out (by dsimp only;rw[bR HY.out];exact hkd)).perm SN.out
        have HP2:Hid (zG T (lW C1 j)≤zG T C+(doneN (fun z=>left z&& !decide (z=k)) x.names).length):=by
         have h8:=Q9 (T:=T) HD.out.sorted j
         show _≤_
         omega
        clear hkd
        go_wp2_with (first|(at_lookup;refine aB aP rfl _ _ 95 88 rfl Tryz.underlying95 (Tryz.aQ _) rfl AL.out j rfl qp ?_;rw[rC.out])|(at_lookup;refine aJ aP rfl _ _ 246 3 rfl Tryz.underlying246 (Tryz.dU _) rfl xO.out j rfl qp ?_;rw[HGC.out])|(at_mapUpdate;refine gT aP rfl _ _ _ 246 3 rfl Tryz.underlying246 rfl xO.out HLEN.out j (.int .i64 ((cN:Int)+1)) rfl rfl qp ?_;intro w4 oG kN;have lT:=Lib.hid (nE.out _ oG);have Ew:=Lib.hid kN;have hk4:=Vl.out w4 kN;clear oG kN)|(at_lookup;refine aJ aP rfl _ _ 246 3 rfl Tryz.underlying246 (Tryz.dU _) rfl lT.out j rfl qp ?_;rw[U0.out]))
        have EG:=Lib.hid (oQ.out _ Ew.out)
        go_roundw
        case rel=>exact⟨_,cnt1,_,EG.out.2,by rw[show n-1=m by have:=Gu.out;omega];exact HD2.out,fun h0=>by have:=Gu.out;omega,lT.out,HP2.out,X8.out,EG.out.1⟩
        case measure=>
         rw[EG.out.2.measure,HR.out.measure]
         exact oK.out
theorem AO (cb:Nat) (hcb:g cb= .none∧¬D cb) (hP:wz T):∀(n:Nat) (hn:n≤8) (id:Int) (C:o_) (w:World),aC g D w p mb ib nb T→bB T id=2→MapAt aP w cb (za C)→aN jw C→C.length≤sm C→zG T C+(aM T id).length≤1000000000000→
  Calls Tryz.prog 208 #[ptr p, .int .i64 id, .int .i64 (8-(n:Int)), .map (some cb)] w (iE T C n id cb w)
 |0,hn,id,C,w,h,hk,hM,hS,hl,hp=>by
  obtain⟨x,hx,hxk⟩:=gG hk
  rw[fq hx]at hp
  exact yX 0 hn id x C cb w h hcb hM.lt hP hx hxk hM hS hl hp fun m e=>by omega
 |n+1,hn,id,C,w,h,hk,hM,hS,hl,hp=>by
  obtain⟨x,hx,hxk⟩:=gG hk
  rw[fq hx]at hp
  refine yX (n+1) hn id x C cb w h hcb hM.lt hP hx hxk hM hS hl hp fun m hm e he hke w1 C1 hK hM1 hS1 hl1 hp1=> ?_
  obtain rfl:m=n:=by omega
  exact AO cb hcb hP m (by omega) e.2 C1 w1 (h.keeps hK fun z hz (e:z=cb)=>by
   subst e
   rcases hz with hz|hz
   ·exact hz hcb.1
   ·exact hcb.2 hz) hke hM1 hS1 hl1 hp1
end
section
variable {P:Program} {K:TypeId} {κ:Type} [DecidableEq κ] (F:uz P K κ)
variable {w:World} {ops:Array Oper} {rest:List Oper} {o:Oper} {a:Act} {Q:Exit→Act→World→Prop}
theorem zH (hg:Region.wanted o (yielded ops a.tmps)=true) (m x v:Operand) (t e:TypeId) (hop:o.op=Op.insert t m x v) (ht:P.underlying t=some (.map K e))
  {b:Nat} {l:List (κ×Value)} (hm:a.eval m= .map (some b)) (hM:MapAt F w b l) (hn:l.length<maxLen) (k:κ) (val:Value) (hx:a.eval x=F.val k) (hv:a.eval v=val) (hok:F.ok k)
  (h:∀w',MapAt F w' b (cO F.lt k val l)→w.mapTurned w' b→wpList P ops Q rest (a.put o.dst undef) w'):wpList P ops Q (o::rest) a w:=by
 refine BigFrame.wpList_want hg fun K' hK=> ?_
 obtain⟨w',hrun,r1,r2⟩:=MapAt.oC F ht hM hn k val hok
 unfold Oper.wp
 simp[execOp,hop,hm,hx,hv,hrun,Result.andThen]
 exact hK _ _ (h w' r1 r2)
theorem MapAt.OQ {t e:TypeId} (ht:P.underlying t=some (.map K e)) {z:Value} (hz:(zeroValue e).run P w= .ok z w) {b:Nat} {l:List (κ×Value)} (hM:MapAt F w b l) (k:κ) (hok:F.ok k):
  (Instr.lookup t (.map (some b)) (F.val k) false).run P w= .ok ((ah k l).getD z) w:=by
 obtain⟨v,ps,hrun,hv⟩:=World.ownsMap.lookup hM F.law ht hz (zd:= .held z) (zp:=[]) rfl (F.of k hok)
 rw[AV]at hv
 have hv':v=(ah k l).getD z:=by
  simp only[lK,Option.some.injEq,Prod.mk.injEq]at hv
  have:=hv.1
  cases hg':ah k l with
  |none=>rw[hg']at this;simpa using this
  |some u=>rw[hg']at this;simpa using this
 rw[hv']at hrun
 exact hrun
end
section
variable {g:Nat→Own} {D:Nat→Prop} {p mb:Nat} {ib nb:Int→Nat} {T:aK}
def AP (T:aK) (q:Int×eB):Prop:=(((if q.1=0 then 1 else 0)+(oo T 8 0).count q.1:Nat):Int)=q.2.links∧¬(q.2.links=0∧q.2.closed=true)
def X9 (T:aK) (ib:Int→Nat) (mb r:Nat) (w3 wr:World):Prop:=
 ∃(left:Int→Bool) (cnt:Nat),dZ aP wr mb r (T.map fun q=>(q.1,ptr (ib q.1))) left cnt∧(∀q∈T,left q.1=false→AP T q)∧Keeps (fun b=>b=r) w3 wr
set_option maxRecDepth 100000 in
set_option maxHeartbeats 16000000 in
theorem Gv (w:World) (h:aC g D w p mb ib nb T) (hP:wz T):
  Calls Tryz.prog 167 #[ptr p] w fun e w'=>Below w.heap.size w w'∧∃r:Bool,e= .returned (.bool r)∧(r=true↔lD T):=by
 obtain⟨hc0,hpw,hmw⟩:=h.cell
 have hok0:aP.ok 0:=gB (by omega) (by omega)
 have fU:=Lib.hid h.map
 have HP:=Lib.hid hP
 have hlen:=hP.few
 cases hx:ah (0:Int) T with
 |none=>
  have HG:Hid (ah (0:Int) (T.map fun q=>(q.1,ptr (ib q.1)))=none):=by show _=_;rw[bZ,hx];rfl
  have HF:Hid (¬lD T):=fun hR=>by
   have:=hR.1
   unfold bB at this
   rw[hx]at this
   cases this
  clear h hP hx hlen
  go_enter Tryz.func167,Tryz.ntmps167
  go_wp2_with (at_lookup;refine aB aP rfl _ _ 95 88 rfl Tryz.underlying95 (Tryz.aQ _) rfl fU.out 0 rfl hok0 ?_;rw[HG.out])
  go_ret
  exact⟨Below.refl _ _,false,rfl,⟨fun h=>(by cases h),fun h=>absurd h HF.out⟩⟩
 |some x=>
  have HG:Hid (ah (0:Int) (T.map fun q=>(q.1,ptr (ib q.1)))=some (ptr (ib 0))):=by show _=_;rw[bZ,hx];rfl
  obtain⟨-,c1,-,-,-,-,-,hiw⟩:=(h.item 0 x hx).cell
  by_cases hk:x.kind=2
  ·have g1:(x.kind==2)=true:=by simpa using hk
   have g1':(x.kind !=2)=false:=by simpa using hk
   have hk0:bB T 0=2:=by rw[bR hx];exact hk
   by_cases h64:T.length≤64
   ·have Rj:Hid ((T.map fun q=>(q.1,ptr (ib q.1))).length=T.length):=List.length_map _
    obtain⟨n,hn⟩:∃n,n=T.length:=⟨_,rfl⟩
    have d1:decide ((64:Int)<(n:Int))=false:=by simp;omega
    have HN:=Lib.hid hn
    have HH:=Lib.hid h
    have Vk:=Lib.hid hk0
    have hmm:= @run_makeMap Tryz.prog
    have HM0:=Lib.hid (MapAt.made (F:=aP) w)
    clear h hP hx hk hk0 hn
    go_enter Tryz.func167,Tryz.ntmps167
    go_wp2_with (first|(at_lookup;refine aB aP rfl _ _ 95 88 rfl Tryz.underlying95 (Tryz.aQ _) rfl fU.out 0 rfl hok0 ?_;rw[HG.out])|(at_len;refine iI aP rfl _ 95 88 rfl Tryz.underlying95 rfl fU.out ?_;rw[Rj.out,←HN.out])|(refine zH aP rfl _ _ _ 246 3 rfl Tryz.underlying246 rfl HM0.out (by unfold maxLen;simp) 0 (.int .i64 1) rfl rfl hok0 ?_;intro w1 hM1 hT1;have jB:=Lib.hid hM1;have HT1:=Lib.hid hT1;clear hM1 hT1))
    have hb1:Below w.heap.size w w1:=(wall w (.map #[] 0)).trans ((Keeps.turned HT1.out).gP (by simp) fun z hz (e:z=w.heap.size)=>by omega)
    have HB1:=Lib.hid hb1
    have hm1:MapAt aP w1 w.heap.size (za [(0,1)]):=jB.out
    have hA1:=HH.out.below hb1 (Nat.le_refl _)
    have hgc:g w.heap.size= .none:=Classical.byContradiction fun hn=>by have:=HH.out.low _ hn;omega
    have hdc:¬D w.heap.size:=fun hn=>by have:=HH.out.l5 _ hn;omega
    have hnl:(aM T 0).length≤65535:=by
     obtain⟨z,hz,-⟩:=gG Vk.out
     rw[fq hz]
     exact(HP.out.get hz).few
    have KR:zG T [(0,1)]+(aM T 0).length≤1000000000000:=by
     have h1:zc T [(0,1)]≤T.length:=List.countP_le_length
     have h2:sm [(0,1)]=1:=rfl
     unfold zG
     omega
    have hlk:=AO w.heap.size ⟨hgc,hdc⟩ HP.out 8 (by omega) 0 [(0,1)] w1 hA1 Vk.out hm1 (List.pairwise_singleton _ _) (by decide) KR
    rw[show(8-((8:Nat):Int))=0 from rfl]at hlk
    have mO:=Lib.hid hlk
    clear hb1 hm1 hA1 hgc hdc hnl KR hlk hmm
    go_wp2_with fail
    (with_reducible refine mO.out.mono ?_)
    rintro e w2 ⟨hK2,r,rfl,hiff,hok⟩
    have HIFF:=Lib.hid hiff
    have HB2:=Lib.hid (HB1.out.trans (hK2.gP HB1.out.size fun z hz (e:z=w.heap.size)=>by omega))
    cases r with
    |false=>
     clear hK2 hiff hok
     go_wp2_with fail
     go_ret
     exact⟨HB2.out,false,rfl,⟨fun h=>(by cases h),fun h=>by have:=HIFF.out.2 h.2.2.1;cases this⟩⟩
    |true=>
     obtain⟨C2,-,hc2,-,-,hm2⟩:=hok rfl
     have uw:=Lib.hid (hiff.1 rfl)
     have qA:=Lib.hid hc2
     have vO:=Lib.hid hm2
     have HA2:=Lib.hid (HH.out.below HB2.out (Nat.le_refl _))
     have oN:=Lib.hid HA2.out.map
     have hcw2:=hm2.lt
     have hmw2:=oN.out.lt
     have hq2:=HA2.out.cell.1
     have hcm:w.heap.size≠mb:=by omega
     clear hc2 hm2 hK2 hiff hok
     go_wp2_with (at_range;refine ku aP rfl _ 95 88 rfl Tryz.underlying95 rfl oN.out ?_;intro w3 EH hB3 hs3)
     go_frame
     have HB3:=Lib.hid hB3
     have HR3:=Lib.hid EH
     clear hB3 EH
     go_loopw [6,7] (fun _ _ wr=>X9 T ib mb w2.heap.size w3 wr) (fun _ _ wr=>wr.rangeLeft mb w2.heap.size)
     case atStart=>
      refine⟨_,_,HR3.out,fun q hq hl=> ?_,Keeps.refl _ _⟩
      rw[bZ,aY dQ HP.out.sorted hq]at hl
      cases hl
     case round=>
      obtain⟨left,cnt,hR,hall,hK⟩:=hrel
      have HR:=Lib.hid hR
      have X_:=Lib.hid hall
      have HK:=Lib.hid hK
      clear hR hall hK
      go_wp2_with (first|(at_next;refine lM aP rfl _ rfl rfl HR.out ?_ ?_))
      ·intro hdone
       have G8:=Lib.hid hdone
       clear hdone
       go_wp2_with fail
       go_ret
       refine⟨HB2.out.trans ((HB3.out.mono HB2.out.size).trans (HK.out.gP (by omega) fun z hz (e:z=w2.heap.size)=>by have:=HB2.out.size;omega)),true,rfl,⟨fun _=>⟨Vk.out,h64,uw.out,fun q hq=>X_.out q hq (G8.out _)⟩,fun _=>rfl⟩⟩
      ·intro k v w4 cnt1 Jl hleft hg2 kP hlt hK1 hs1 hen
       rw[bZ]at hg2
       cases hy:ah k T with
       |none=>rw[hy]at hg2;cases hg2
       |some y=>
        rw[hy]at hg2
        cases hg2
        have hK4:Keeps (fun b=>b=w2.heap.size) w3 w4:=HK.out.trans hK1 fun z _ hz=>hz
        have hs3':=HK.out.size
        have BZ:aC g D w4 p mb ib nb T:=(HA2.out.below HB3.out (Nat.le_refl _)).keeps hK4 fun z hz (e:z=w2.heap.size)=>by
         rcases hz with hz|hz
         ·have:=HA2.out.low z hz;omega
         ·have:=HA2.out.l5 z hz;omega
        obtain⟨-,-,y2,-,-,y5,-,hyw⟩:=(BZ.item k y hy).cell
        have C9:MapAt aP w4 w.heap.size (za C2):=(vO.out.kept (HB3.out.block _ hcw2)).kept (hK4.block _ (by omega) (by omega))
        obtain⟨cN,Pj⟩:∃cN,cN=iN C2 k:=⟨_,rfl⟩
        have hlk:∀n,(Instr.lookup 246 (.map (some w.heap.size)) (.int .i64 k) false).run Tryz.prog (w4.drewN n)= .ok (.int .i64 (cN:Int)) (w4.drewN n):=fun n=>by
         have h9:=MapAt.OQ (F:=aP) (w:=w4.drewN n) (t:=246) Tryz.underlying246 (Tryz.dU _) (C9.kept rfl) k Jl
         rw[yU,←Pj]at h9
         exact h9
        have HIS:Hid ((AP T (k,y)↔(cN:Int)=y.links∧¬(y.links=0∧y.closed=true))):=by
         unfold AP
         dsimp only
         rw[Pj,qA.out k,Eh]
         exact Lib.hid Iff.rfl
        have Rq:Hid ((k,y)∈T):=dB hy
        have HR1:=Lib.hid kP
        have oK:=Lib.hid hlt
        have ny:=Lib.hid hK4
        have nA:Hid (∀w',Keeps (fun b=>b=w2.heap.size) w3 w'→Below w.heap.size w w'):=fun w' hK=>HB2.out.trans ((HB3.out.mono HB2.out.size).trans (hK.gP (by have:=HB2.out.size;omega) fun z hz (e:z=w2.heap.size)=>by have:=HB2.out.size;omega))
        have HGT:=Lib.hid (fun z (hz:ah z T=some y)=>hz)
        have e3:aP.val k= .int .i64 k:=rfl
        rw[e3]at hen⊢
        have HY:=Lib.hid hy
        clear e3 kP hlt hK4 BZ C9 Pj hy hK1 hs1
        have SQ:Hid (¬AP T (k,y)→¬lD T):=fun hn hR=>hn (hR.2.2.2 _ Rq.out)
        have Ng:Hid (AP T (k,y)→∀q∈T,(left q.1&& !decide (q.1=k))=false→AP T q):=fun hrow q hq hl=>by
         by_cases hqk:q.1=k
         ·have h9:=aY dQ HP.out.sorted hq
          rw[hqk,HY.out]at h9
          have e9:y=q.2:=Option.some.inj h9
          have:q=(k,y):=Prod.ext hqk e9.symm
          rw[this]
          exact hrow
         ·refine X_.out q hq ?_
          simpa[hqk]using hl
        by_cases hcl:(cN:Int)=y.links
        ·have d2:((cN:Int)==y.links)=true:=by simpa using hcl
         have d3:((cN:Int) !=y.links)=false:=by simpa using hcl
         by_cases hl0:y.links=0
         ·have d4:(y.links==0)=true:=by simpa using hl0
          cases VE:y.closed with
          |true=>
           rw[VE]at y5
           have HF:=Lib.hid (SQ.out fun hr=>(HIS.out.1 hr).2 ⟨hl0,VE⟩)
           clear hcl hl0 VE
           go_wp2_with fail
           go_quiet (fail)
           go_wp2_with fail
           go_ret
           exact⟨nA.out _ (Keeps.trans ny.out (fp':=fun b=>b=w2.heap.size) ⟨rfl,rfl,rfl,Nat.le_refl _,fun _ _ _=>rfl⟩ fun z _ hz=>hz),false,rfl,⟨fun h=>(by cases h),fun h=>absurd h HF.out⟩⟩
          |false=>
           rw[VE]at y5
           have Wo:=Lib.hid (Ng.out (HIS.out.2 ⟨hcl,fun hh=>by rw[VE]at hh;cases hh.2⟩))
           clear hcl hl0 VE
           go_wp2_with fail
           go_quiet (fail)
           go_wp2_with fail
           go_roundw
           case rel=>exact⟨_,cnt1,HR1.out.kept rfl rfl,Wo.out,Keeps.trans ny.out (fp':=fun b=>b=w2.heap.size) ⟨rfl,rfl,rfl,Nat.le_refl _,fun _ _ _=>rfl⟩ fun z _ hz=>hz⟩
           case measure=>
            have h4:=HR1.out.kept (w':=w4.drewN nq) rfl rfl
            rw[h4.measure,HR.out.measure]
            exact oK.out
         ·have d4:(y.links==0)=false:=by simpa using hl0
          have Wo:=Lib.hid (Ng.out (HIS.out.2 ⟨hcl,fun hh=>hl0 hh.1⟩))
          clear hcl hl0
          go_wp2_with fail
          go_quiet (fail)
          go_wp2_with fail
          go_roundw
          case rel=>exact⟨_,cnt1,HR1.out.kept rfl rfl,Wo.out,Keeps.trans ny.out (fp':=fun b=>b=w2.heap.size) ⟨rfl,rfl,rfl,Nat.le_refl _,fun _ _ _=>rfl⟩ fun z _ hz=>hz⟩
          case measure=>
           have h4:=HR1.out.kept (w':=w4.drewN nq) rfl rfl
           rw[h4.measure,HR.out.measure]
           exact oK.out
        ·have d2:((cN:Int)==y.links)=false:=by simpa using hcl
         have d3:((cN:Int) !=y.links)=true:=by simpa using hcl
         have HF:=Lib.hid (SQ.out fun hr=>hcl (HIS.out.1 hr).1)
         clear hcl
         go_wp2_with fail
         go_quiet (fail)
         go_wp2_with fail
         go_ret
         exact⟨nA.out _ (Keeps.trans ny.out (fp':=fun b=>b=w2.heap.size) ⟨rfl,rfl,rfl,Nat.le_refl _,fun _ _ _=>rfl⟩ fun z _ hz=>hz),false,rfl,⟨fun h=>(by cases h),fun h=>absurd h HF.out⟩⟩
   ·have Rj:Hid ((T.map fun q=>(q.1,ptr (ib q.1))).length=T.length):=List.length_map _
    obtain⟨n,hn⟩:∃n,n=T.length:=⟨_,rfl⟩
    have d1:decide ((64:Int)<(n:Int))=true:=by simp;omega
    have HN:=Lib.hid hn
    have HF:Hid (¬lD T):=fun hR=>by
     have:=hR.2.1
     omega
    clear h hP hx hk hk0 hn h64
    go_enter Tryz.func167,Tryz.ntmps167
    go_wp2_with (first|(at_lookup;refine aB aP rfl _ _ 95 88 rfl Tryz.underlying95 (Tryz.aQ _) rfl fU.out 0 rfl hok0 ?_;rw[HG.out])|(at_len;refine iI aP rfl _ 95 88 rfl Tryz.underlying95 rfl fU.out ?_;rw[Rj.out,←HN.out]))
    go_ret
    exact⟨Below.refl _ _,false,rfl,⟨fun h=>(by cases h),fun h=>absurd h HF.out⟩⟩
  ·have g1:(x.kind==2)=false:=by simpa using hk
   have g1':(x.kind !=2)=true:=by simpa using hk
   have HF:Hid (¬lD T):=fun hR=>by
    have:=hR.1
    rw[bR hx]at this
    exact hk this
   clear h hP hx hk hlen
   go_enter Tryz.func167,Tryz.ntmps167
   go_wp2_with (at_lookup;refine aB aP rfl _ _ 95 88 rfl Tryz.underlying95 (Tryz.aQ _) rfl fU.out 0 rfl hok0 ?_;rw[HG.out])
   go_ret
   exact⟨Below.refl _ _,false,rfl,⟨fun h=>(by cases h),fun h=>absurd h HF.out⟩⟩
end
end Go.Proofs.YtmabllemjkcobaaGreatDoor
