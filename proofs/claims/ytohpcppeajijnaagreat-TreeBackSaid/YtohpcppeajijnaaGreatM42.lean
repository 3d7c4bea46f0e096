/- tree: links. tree: right. -/
import Derived.Test.YtohpcppeajijnaaGreatM40
import Derived.Test.YtohpcppeajijnaaGreatM15
import Derived.Test.YtohpcppeajijnaaGreatM04
import Derived.Deep.QuietTactic
import Derived.BigQuiet
namespace Go.Proofs.YtohpcppeajijnaaGreat
open Go.ChangeShapes Go.WideShapes Go.ChangeAt Go.RowKit
set_option linter.unusedVariables false
set_option linter.unusedSimpArgs false
def xV (C:nS):List (Int×Value):=C.map fun p=>(p.1,(.int .i64 (p.2:Int):Value))
theorem JG (C:nS) (j:Int):aj j (xV C)=(aj j C).map fun n:Nat=>(.int .i64 (n:Int):Value):=AO (fun n:Nat=>(.int .i64 (n:Int):Value)) j C
theorem xM (C:nS) (j:Int):(aj j (xV C)).getD (.int .i64 0)= .int .i64 (iE C j:Int):=by
 rw[JG]
 unfold iE
 cases aj j C<;>rfl
theorem LQ (C:nS) (k:Int):bT fT k (.int .i64 ((iE C k:Int)+1):Value) (xV C)=xV (kM C k):=by
 unfold xV kM
 rw[GZ fT (fun n:Nat=>(.int .i64 (n:Int):Value)) k (iE C k+1) C]
 rfl
theorem LU (C:nS):(xV C).length=C.length:=List.length_map _
def h_ (T:aF) (C:nS) (n:Nat) (id:Int) (cb:Nat) (w:World) (e:Ending) (w':World):Prop:=
 Keeps (fun b=>b=cb) w w'∧∃r:Bool,e= .returned (.bool r)∧(r=true↔gq T C n id)∧(r=true→∃C',aI fT C'∧(∀j,iE C' j=iE C j+(ni T n id).count j)∧yu T C'≤yu T C+(aO T id).length∧C'.length≤sm C'∧MapAt aW w' cb (xV C'))
theorem h_.xO {T:aF} {C:nS} {n:Nat} {id:Int} {cb:Nat} {w w':World} (hk:Keeps (fun b=>b=cb) w w') (h:¬gq T C n id):h_ T C n id cb w (.returned (.bool false)) w':=
 ⟨hk,false,rfl,⟨fun h'=>(by cases h'),fun h'=>absurd h' h⟩,fun h'=>(by cases h')⟩
def QX (T:aF) (C:nS) (n:Nat) (id:Int) (x:bF) (w:World) (R7 r cb:Nat) (wr:World):Prop:=
 ∃(left:Nm→Bool) (cnt:Nat) (C':nS),eB cK wr R7 r (bO x) left cnt∧jI T (n-1) C (doneN left x.names) C'∧(n=0→doneN left x.names=[])∧MapAt aW wr cb (xV C')∧yu T C'≤yu T C+(doneN left x.names).length∧C'.length≤sm C'∧Keeps (fun b=>b=cb) w wr
theorem LV {C:nS} (h:aI fT C) (hl:C.length≤sm C) (k:Int):(kM C k).length≤sm (kM C k):=by
 rw[DX h]
 unfold kM bT
 rw[pE]
 have:(bg k C).length≤C.length:=List.length_filter_le _ _
 omega
theorem JH (left:Nm→Bool) (l:List (Nm×Int)):(doneN left l).length≤l.length:=List.length_filter_le _ _
section
variable {g:Nat→Own} {D:Nat→Prop} {p mb:Nat} {ib nb:Int→Nat} {T:aF}
set_option maxRecDepth 100000 in
set_option maxHeartbeats 16000000 in
theorem xP (n:Nat) (jS:n≤8) (id:Int) (x:bF) (C:nS) (cb:Nat) (w:World) (h:aJ g D w p mb ib nb T) (hcb:g cb= .none∧¬D cb) (hcw:cb<w.heap.size) (hP:u7 T) (hx:aj id T=some x) (hk:x.kind=2)
  (hM:MapAt aW w cb (xV C)) (hS:aI fT C) (VW:C.length≤sm C) (GA:yu T C+x.names.length≤1000000000000)
  (hrec:∀m,n=m+1→∀e∈x.names,bq T e.2=2→∀w1 C1,Keeps (fun b=>b=cb) w w1→MapAt aW w1 cb (xV C1)→aI fT C1→C1.length≤sm C1→yu T C1+(aO T e.2).length≤1000000000000→Calls Tryz.prog 158 #[ptr p, .int .i64 e.2, .int .i64 (8-(m:Int)), .map (some cb)] w1 (h_ T C1 m e.2 cb w1)):
  Calls Tryz.prog 158 #[ptr p, .int .i64 id, .int .i64 (8-(n:Int)), .map (some cb)] w (h_ T C n id cb w):=by
 obtain⟨hc0,hpw,hmw⟩:=h.cell
 have RG:=hP.get hx
 have l7:=RG.ok.id
 have hok:aW.ok id:=l6 l7.1 (by unfold uz at l7;dsimp only at l7;omega)
 obtain⟨c0,c1,c2,c3,c4,c5,c7,hiw⟩:=(h.item id x hx).cell
 have hget:aj id (T.map fun q=>(q.1,ptr (ib q.1)))=some (ptr (ib id)):=by rw[dw,hx];rfl
 have HG:=Lib.hid hget
 have fM:=Lib.hid h.map
 have HH:=Lib.hid h
 have Uv:=Lib.hid hrec
 have VX:=Lib.hid RG
 have HX:=Lib.hid hx
 have HP:=Lib.hid hP
 have Ld:=Lib.hid hM
 have Yc:=Lib.hid hS
 have Po:=Lib.hid VW
 have Uw:=Lib.hid GA
 have Ux:=Lib.hid hcb
 have hnn:aO T id=x.names:=cB hx
 have qL:=Lib.hid hnn
 have e2:fJ x (nb id)= .map (some (nb id)):=if_pos hk
 rw[e2]at c7
 have HN:=Lib.hid ((h.item id x hx).names hk)
 have hbw:=HN.out.lt
 have htn:=h.kI id x hx hk
 have Uy:=h.iU
 have htp:=h.nV
 have hne1:cb≠nb id:=fun e=>by rw[←e,hcb.1]at htn;cases htn
 have hne2:cb≠mb:=fun e=>by rw[←e,hcb.1]at Uy;cases Uy
 have Yd:cb≠p:=fun e=>by rw[←e,hcb.1]at htp;cases htp
 have Cz:=Lib.hid hk
 have Uz:=Lib.hid (RG.sorted.apart oU)
 clear hget hrec h hk e2 RG l7 hP hM hS VW GA hcb hnn htn Uy htp hx
 go_enter Tryz.func158,Tryz.ntmps158
 go_wp2_with (first|(at_lookup;refine aL aW rfl _ _ 94 92 rfl Tryz.underlying94 (Tryz.aU _) rfl fM.out id rfl hok ?_;rw[HG.out])|(at_range;refine kU cK rfl _ 107 3 rfl Tryz.underlying107 rfl HN.out ?_;intro w0 hR0 hB0 hs0))
 go_frame
 go_loopw [10,11,12] (fun _ _ _ wr=>QX T C n id x w (nb id) w.heap.size cb wr) (fun _ _ _ wr=>wr.rangeLeft (nb id) w.heap.size)
 case atStart=>
  have hnil:doneN (fun k=>(aj k (bO x)).isSome) x.names=[]:=DW fun e he=>by
   rw[dI,aY oU VX.out.sorted he];rfl
  refine⟨_,_,C,hR0,by rw[hnil];exact jI.nil Yc.out,fun _=>hnil,Ld.out.kept (hB0.block _ hcw),by rw[hnil];exact Nat.le_refl _,Po.out,(Keeps.below hB0).mono fun z hz hz'=>by omega⟩
 case round=>
  obtain⟨left,cnt,C1,hR,hD,hD0,hM1,hps,hl1,hK⟩:=hrel
  have HR:=Lib.hid hR
  have HD:=Lib.hid hD
  have HD0:=Lib.hid hD0
  have Cc:=Lib.hid hM1
  have NK:=Lib.hid hps
  have yc:=Lib.hid hl1
  have HK:=Lib.hid hK
  clear hR hD hD0 hM1 hps hl1 hK
  go_wp2_with (first|(at_next;refine mJ cK rfl _ rfl rfl HR.out ?_ ?_))
  ·intro hdone
   have Bj:=Lib.hid hdone
   clear hdone
   go_wp2_with fail
   go_ret
   have hall:doneN left x.names=x.names:=Gu Bj.out
   have hd:=HD.out
   rw[hall]at hd
   refine⟨HK.out,true,rfl,?_⟩
   cases n with
   |zero=>
    have hnil:=HD0.out rfl
    rw[hall]at hnil
    have hnm:aO T id=[]:=qL.out.trans hnil
    refine⟨⟨fun _=>⟨hnm,fun k hk=>(by unfold ni at hk;cases hk)⟩,fun _=>rfl⟩,fun _=>⟨C1,hd.sorted,fun j=> ?_,?_,yc.out,Cc.out⟩⟩
    ·rw[hd.cnt j,hnil];rfl
    ·have:=NK.out
     rw[hall,hnil]at this
     exact Nat.le_trans this (Nat.le_add_right _ _)
   |succ n=>
    rw[←qL.out]at hd
    have hfin:=hd.all
    refine⟨⟨fun _=>hfin.1,fun _=>rfl⟩,fun _=>⟨C1,hd.sorted,hfin.2,?_,yc.out,Cc.out⟩⟩
    have:=NK.out
    rw[hall,←qL.out]at this
    exact this
  ·intro k v w3 cnt1 Ko hleft hg2 mM hlt hK1 hs1 hen
   rw[dI]at hg2
   cases hk2:aj k x.names with
   |none=>rw[hk2]at hg2;cases hg2
   |some j=>
    rw[hk2]at hg2
    cases hg2
    have hmem:=bR hk2
    have hjb:=VX.out.ids _ hmem
    have oV:aW.ok j:=l6 hjb.1 (by have:=hjb.2;dsimp only at this;omega)
    have hK3:Keeps (fun b=>b=cb) w w3:=HK.out.trans hK1 fun z hz (e:z=w.heap.size)=>by omega
    have hA3:=HH.out.keeps hK3 fun z hz (e:z=cb)=>by
     subst e
     rcases hz with hz|hz
     ·exact hz Ux.out.1
     ·exact Ux.out.2 hz
    obtain⟨hc3,Ye,Yf⟩:=hA3.cell
    have zK:=Lib.hid hA3.map
    have C_:Hid (MapAt aW w3 cb (xV C1)):=Cc.out.kept (hK1.block _ (by have:=Cc.out.lt;omega) (fun(e:cb=w.heap.size)=>by omega))
    have MI:(k,j)∈aO T id:=by rw[qL.out];exact hmem
    have lM:=Lib.hid MI
    have Az:=Lib.hid hlt
    have J3:=Lib.hid hleft
    have HR1:=Lib.hid mM
    have MF:=Lib.hid hK3
    have LW:=Lib.hid hmem
    have hrw:=mM.lt
    have e3:cK.val k= .string (strOf k):=rfl
    rw[e3]at hen⊢
    clear e3 hlt hleft mM hK3 hmem MI hk2 hjb
    cases hy:aj j T with
    |none=>
     have qo:Hid (aj j (T.map fun q=>(q.1,ptr (ib q.1)))=none):=by show _=_;rw[dw,hy];rfl
     have HF:Hid (¬gq T C n id):=by
      cases n with
      |zero=>exact uG lM.out
      |succ m=>exact Cr lM.out (fun hh=>by have h9:=hh.1;dsimp only at h9;rw[hy]at h9;cases h9)
     clear hy
     go_wp2_with (at_lookup;refine aG aW rfl _ _ 94 92 rfl Tryz.underlying94 (Tryz.aU _) rfl zK.out j rfl oV ?_;rw[qo.out])
     go_ret
     exact h_.xO MF.out HF.out
    |some y=>
     have qo:Hid (aj j (T.map fun q=>(q.1,ptr (ib q.1)))=some (ptr (ib j))):=by show _=_;rw[dw,hy];rfl
     obtain⟨-,y1,-,-,-,-,-,VY⟩:=(hA3.item j y hy).cell
     have HY:=Lib.hid hy
     clear hy hA3
     by_cases hj0:j=0
     ·have HF:Hid (¬gq T C n id):=by
       cases n with
       |zero=>exact uG lM.out
       |succ m=>exact Cr lM.out (fun hh=>hh.2 hj0)
      have d1:(j==0)=true:=by simpa using hj0
      clear hj0
      go_wp2_with (at_lookup;refine aG aW rfl _ _ 94 92 rfl Tryz.underlying94 (Tryz.aU _) rfl zK.out j rfl oV ?_;rw[qo.out])
      go_ret
      exact h_.xO MF.out HF.out
     ·have d1:(j==0)=false:=by simpa using hj0
      have VZ:=Lib.hid hj0
      clear hj0
      by_cases hn0:n=0
      ·have HF:Hid (¬gq T C n id):=by
        subst hn0
        exact uG lM.out
       have d2:((8-(n:Int))==8)=true:=by rw[hn0];rfl
       clear hn0
       go_wp2_with (at_lookup;refine aG aW rfl _ _ 94 92 rfl Tryz.underlying94 (Tryz.aU _) rfl zK.out j rfl oV ?_;rw[qo.out])
       go_ret
       exact h_.xO MF.out HF.out
      ·have d2:((8-(n:Int))==8)=false:=beq_eq_false_iff_ne.2 (by omega)
       obtain⟨m,hm⟩:∃m,n=m+1:=⟨n-1,by omega⟩
       have gY:=Lib.hid hm
       have hsum:IntKind.i64.wrap (8-(n:Int)+1)=8-(m:Int):=by rw[IntWalk.i64_in _ (by omega)];omega
       have RH:Hid (jI T m C (doneN left x.names) C1):=by
        have:=HD.out
        rw[show n-1=m by omega]at this
        exact this
       clear hn0 hm
       have hd1:=rH Uz.out LW.out J3.out
       have hdl:=hd1.length_eq
       rw[List.length_append,List.length_singleton]at hdl
       have NR:=JH (fun z=>left z&& !decide (z=k)) x.names
       have MJ:=Lib.hid hd1
       have hps:=NK.out
       have GA:=Uw.out
       obtain⟨cN,FY⟩:∃cN,cN=iE C1 j:=⟨_,rfl⟩
       have hcs:=LB HD.out.sorted j
       rw[←FY]at hcs
       have hpp:sm C1≤yu T C1:=by unfold yu;omega
       have UA:Hid ((aj j (xV C1)).getD (.int .i64 0)= .int .i64 (cN:Int)):=by show _=_;rw[xM,←FY]
       have GD:Hid (∀w',MapAt aW w' cb (bT aW.lt j (.int .i64 ((cN:Int)+1)) (xV C1))→MapAt aW w' cb (xV (kM C1 j))):=fun w' hm=>by
        have e9:bT aW.lt j (.int .i64 ((cN:Int)+1)) (xV C1)=xV (kM C1 j):=by rw[FY];exact LQ C1 j
        rw[e9]at hm
        exact hm
       have OP:Hid ((aj j (xV (kM C1 j))).getD (.int .i64 0)= .int .i64 ((cN:Int)+1)):=by show _=_;rw[xM,jm,if_pos rfl,←FY];rfl
       have HLEN:Hid ((xV C1).length<maxLen):=by
        show _<_
        rw[LU]
        have:=yc.out
        unfold maxLen
        omega
       have QY:=Lib.hid (LV HD.out.sorted yc.out j)
       have e1:IntKind.i64.wrap ((cN:Int)+1)=(cN:Int)+1:=IntWalk.i64_in _ (by omega)
       have V3:=Lib.hid FY
       have UC:Hid (∀w4,w3.mapTurned w4 cb→w4.cell? ⟨ib j,1,none⟩=some (.int .i64 y.kind)):=fun w4 hT=>by
        have hgi:=HH.out.l5 j y HY.out
        have hne:ib j≠cb:=fun e=>by rw[e,Ux.out.1]at hgi;cases hgi
        exact(World.cell?_of_block (w:=w3) (w':=w4) (a:=⟨ib j,1,none⟩) (dD hT _ VY hne)).trans y1
       have mI:Hid (∀w4,w3.mapTurned w4 cb→Keeps (fun b=>b=cb) w w4∧eB cK w4 (nb id) w.heap.size (bO x) (fun z=>left z&& !decide (z=k)) cnt1):=fun w4 hT=>
        ⟨MF.out.trans (Keeps.turned hT) fun z _ hz=>hz,HR1.out.kept (dD hT _ hrw.1 (Ne.symm hne1)) (dD hT _ hrw.2.1 (by omega))⟩
       clear FY hcs hpp hd1
       by_cases hkd:y.kind=2
       ·have g1:(y.kind==2)=true:=by simpa using hkd
        have hkj:bq T j=2:=by rw[bI HY.out];exact hkd
        by_cases hc0:cN=0
        ·have Yg:decide ((1:Int)<(cN:Int)+1)=false:=by simp;omega
         have hzc:iE C1 j=0:=by rw[←V3.out];exact hc0
         have V4:=LD (T:=T) HD.out.sorted (bR HY.out) hkd hzc
         have hnl:(aO T j).length≤65535:=by rw[cB HY.out];exact(HP.out.get HY.out).few
         have HQ:Hid (∀w4,w3.mapTurned w4 cb→MapAt aW w4 cb (xV (kM C1 j))→Calls Tryz.prog 158 #[ptr p, .int .i64 j, .int .i64 (8-(m:Int)), .map (some cb)] w4 (h_ T (kM C1 j) m j cb w4)):=fun w4 hT hM=>Uv.out m gY.out (k,j) LW.out hkj w4 _ (mI.out w4 hT).1 hM (xJ HD.out.sorted j) QY.out (by dsimp only;omega)
         have UD:=Lib.hid (And.intro hzc hkj)
         have Yh:=Lib.hid (And.intro V4 hnl)
         clear hkd hkj hc0 hzc V4 hnl
         go_wp2_with (first|(at_lookup;refine aG aW rfl _ _ 94 92 rfl Tryz.underlying94 (Tryz.aU _) rfl zK.out j rfl oV ?_;rw[qo.out])|(at_lookup;refine aL aW rfl _ _ 204 3 rfl Tryz.underlying204 (Tryz.dP _) rfl C_.out j rfl oV ?_;rw[UA.out])|(at_mapUpdate;refine gH aW rfl _ _ _ 204 3 rfl Tryz.underlying204 rfl C_.out HLEN.out j (.int .i64 ((cN:Int)+1)) rfl rfl oV ?_;intro w4 xR pK;have vG:=Lib.hid (GD.out _ xR);have rJ:=Lib.hid pK;have hk4:=UC.out w4 pK;clear xR pK)|(at_lookup;refine aL aW rfl _ _ 204 3 rfl Tryz.underlying204 (Tryz.dP _) rfl vG.out j rfl oV ?_;rw[OP.out]))
         (with_reducible refine(HQ.out _ rJ.out vG.out).mono ?_)
         rintro e w5 ⟨rM,r,rfl,hiff,OQ⟩
         have CQ:=Lib.hid (mI.out _ rJ.out)
         have Fz:=Lib.hid rM
         cases r with
         |false=>
          have HF:Hid (¬gq T C n id):=by
           have h9:=JD (C:=C) (e:=(k,j)) (by rw[qL.out];exact Uz.out) lM.out J3.out (by rw[qL.out];exact RH.out) UD.out.2 (fun hh=>by have:=hiff.2 hh;cases this)
           rw[←gY.out]at h9
           exact h9
          clear hiff OQ rM
          go_wp2_with fail
          go_ret
          exact h_.xO (CQ.out.1.trans Fz.out fun z _ hz=>hz) HF.out
         |true=>
          obtain⟨C2,hs2,hc2,hp2,hl2,hm2⟩:=OQ rfl
          have HD2:Hid (jI T m C (doneN (fun z=>left z&& !decide (z=k)) x.names) C2):=(RH.out.dir (e:=(k,j)) (by dsimp only;rw[HY.out];rfl) VZ.out UD.out.2 UD.out.1 hs2 hc2 (hiff.1 rfl)).perm MJ.out
          have UE:Hid (yu T C2≤yu T C+(doneN (fun z=>left z&& !decide (z=k)) x.names).length):=by
           have h8:=Yh.out
           show _≤_
           omega
          have HL2:=Lib.hid hl2
          have zW:=Lib.hid hm2
          clear hs2 hc2 hp2 hl2 hm2 hiff OQ rM
          go_wp2_with fail
          go_roundw
          case rel=>exact⟨_,cnt1,C2,CQ.out.2.kept (Fz.out.block _ CQ.out.2.lt.1 (Ne.symm hne1)) (Fz.out.block _ CQ.out.2.lt.2.1 (by omega)),by rw[show n-1=m by have:=gY.out;omega];exact HD2.out,fun h0=>by have:=gY.out;omega,zW.out,UE.out,HL2.out,CQ.out.1.trans Fz.out fun z _ hz=>hz⟩
          case measure=>
           have h4:=CQ.out.2.kept (w':=w5) (Fz.out.block _ CQ.out.2.lt.1 (Ne.symm hne1)) (Fz.out.block _ CQ.out.2.lt.2.1 (by omega))
           rw[h4.measure,HR.out.measure]
           exact Az.out
        ·have Yg:decide ((1:Int)<(cN:Int)+1)=true:=by simp;omega
         have HF:Hid (¬gq T C n id):=by
          have h9:=JC (C:=C) (n:=m) (e:=(k,j)) (by rw[qL.out];exact Uz.out) lM.out J3.out (by rw[qL.out];exact RH.out) hkj (by dsimp only;rw[jm,if_pos rfl,←V3.out];omega)
          rw[←gY.out]at h9
          exact h9
         clear hkd hkj hc0
         go_wp2_with (first|(at_lookup;refine aG aW rfl _ _ 94 92 rfl Tryz.underlying94 (Tryz.aU _) rfl zK.out j rfl oV ?_;rw[qo.out])|(at_lookup;refine aL aW rfl _ _ 204 3 rfl Tryz.underlying204 (Tryz.dP _) rfl C_.out j rfl oV ?_;rw[UA.out])|(at_mapUpdate;refine gH aW rfl _ _ _ 204 3 rfl Tryz.underlying204 rfl C_.out HLEN.out j (.int .i64 ((cN:Int)+1)) rfl rfl oV ?_;intro w4 xR pK;have vG:=Lib.hid (GD.out _ xR);have rJ:=Lib.hid pK;have hk4:=UC.out w4 pK;clear xR pK)|(at_lookup;refine aL aW rfl _ _ 204 3 rfl Tryz.underlying204 (Tryz.dP _) rfl vG.out j rfl oV ?_;rw[OP.out]))
         go_ret
         exact h_.xO (mI.out _ rJ.out).1 HF.out
       ·have g1:(y.kind==2)=false:=by simpa using hkd
        have HD2:Hid (jI T m C (doneN (fun z=>left z&& !decide (z=k)) x.names) (kM C1 j)):=(RH.out.file (e:=(k,j)) (by dsimp only;rw[HY.out];rfl) VZ.out (by dsimp only;rw[bI HY.out];exact hkd)).perm MJ.out
        have UE:Hid (yu T (kM C1 j)≤yu T C+(doneN (fun z=>left z&& !decide (z=k)) x.names).length):=by
         have h8:=LC (T:=T) HD.out.sorted j
         show _≤_
         omega
        clear hkd
        go_wp2_with (first|(at_lookup;refine aG aW rfl _ _ 94 92 rfl Tryz.underlying94 (Tryz.aU _) rfl zK.out j rfl oV ?_;rw[qo.out])|(at_lookup;refine aL aW rfl _ _ 204 3 rfl Tryz.underlying204 (Tryz.dP _) rfl C_.out j rfl oV ?_;rw[UA.out])|(at_mapUpdate;refine gH aW rfl _ _ _ 204 3 rfl Tryz.underlying204 rfl C_.out HLEN.out j (.int .i64 ((cN:Int)+1)) rfl rfl oV ?_;intro w4 xR pK;have vG:=Lib.hid (GD.out _ xR);have rJ:=Lib.hid pK;have hk4:=UC.out w4 pK;clear xR pK)|(at_lookup;refine aL aW rfl _ _ 204 3 rfl Tryz.underlying204 (Tryz.dP _) rfl vG.out j rfl oV ?_;rw[OP.out]))
        have CQ:=Lib.hid (mI.out _ rJ.out)
        go_roundw
        case rel=>exact⟨_,cnt1,_,CQ.out.2,by rw[show n-1=m by have:=gY.out;omega];exact HD2.out,fun h0=>by have:=gY.out;omega,vG.out,UE.out,QY.out,CQ.out.1⟩
        case measure=>
         rw[CQ.out.2.measure,HR.out.measure]
         exact Az.out
theorem zL (cb:Nat) (hcb:g cb= .none∧¬D cb) (hP:u7 T):∀(n:Nat) (hn:n≤8) (id:Int) (C:nS) (w:World),aJ g D w p mb ib nb T→bq T id=2→MapAt aW w cb (xV C)→aI fT C→C.length≤sm C→yu T C+(aO T id).length≤1000000000000→
  Calls Tryz.prog 158 #[ptr p, .int .i64 id, .int .i64 (8-(n:Int)), .map (some cb)] w (h_ T C n id cb w)
 |0,hn,id,C,w,h,hk,hM,hS,hl,hp=>by
  obtain⟨x,hx,hxk⟩:=fG hk
  rw[cB hx]at hp
  exact xP 0 hn id x C cb w h hcb hM.lt hP hx hxk hM hS hl hp fun m e=>by omega
 |n+1,hn,id,C,w,h,hk,hM,hS,hl,hp=>by
  obtain⟨x,hx,hxk⟩:=fG hk
  rw[cB hx]at hp
  refine xP (n+1) hn id x C cb w h hcb hM.lt hP hx hxk hM hS hl hp fun m hm e he hke w1 C1 hK hM1 hS1 hl1 hp1=> ?_
  obtain rfl:m=n:=by omega
  exact zL cb hcb hP m (by omega) e.2 C1 w1 (h.keeps hK fun z hz (e:z=cb)=>by
   subst e
   rcases hz with hz|hz
   ·exact hz hcb.1
   ·exact hcb.2 hz) hke hM1 hS1 hl1 hp1
end
section
variable {P:Program} {K:TypeId} {κ:Type} [DecidableEq κ] (F:tJ P K κ)
variable {w:World} {ops:Array Oper} {rest:List Oper} {o:Oper} {a:Act} {Q:Exit→Act→World→Prop}
theorem yw (hg:Region.wanted o (yielded ops a.tmps)=true) (m x v:Operand) (t e:TypeId) (hop:o.op=Op.insert t m x v) (ht:P.underlying t=some (.map K e))
  {b:Nat} {l:List (κ×Value)} (hm:a.eval m= .map (some b)) (hM:MapAt F w b l) (hn:l.length<maxLen) (k:κ) (val:Value) (hx:a.eval x=F.val k) (hv:a.eval v=val) (hok:F.ok k)
  (h:∀w',MapAt F w' b (bT F.lt k val l)→w.mapTurned w' b→wpList P ops Q rest (a.put o.dst undef) w'):wpList P ops Q (o::rest) a w:=by
 refine BigFrame.wpList_want hg fun K' hK=> ?_
 obtain⟨w',hrun,r1,r2⟩:=MapAt.ql F ht hM hn k val hok
 unfold Oper.wp
 simp[execOp,hop,hm,hx,hv,hrun,Result.andThen]
 exact hK _ _ (h w' r1 r2)
theorem MapAt.JI {t e:TypeId} (ht:P.underlying t=some (.map K e)) {z:Value} (hz:(zeroValue e).run P w= .ok z w) {b:Nat} {l:List (κ×Value)} (hM:MapAt F w b l) (k:κ) (hok:F.ok k):
  (Instr.lookup t (.map (some b)) (F.val k) false).run P w= .ok ((aj k l).getD z) w:=by
 obtain⟨v,ps,hrun,hv⟩:=World.ownsMap.lookup hM F.law ht hz (zd:= .held z) (zp:=[]) rfl (F.of k hok)
 rw[zR]at hv
 have hv':v=(aj k l).getD z:=by
  simp only[kP,Option.some.injEq,Prod.mk.injEq]at hv
  have:=hv.1
  cases hg':aj k l with
  |none=>rw[hg']at this;simpa using this
  |some u=>rw[hg']at this;simpa using this
 rw[hv']at hrun
 exact hrun
end
section
variable {g:Nat→Own} {D:Nat→Prop} {p mb:Nat} {ib nb:Int→Nat} {T:aF}
def zM (T:aF) (q:Int×bF):Prop:=(((if q.1=0 then 1 else 0)+(ni T 8 0).count q.1:Nat):Int)=q.2.links∧¬(q.2.links=0∧q.2.closed=true)
def QZ (T:aF) (ib:Int→Nat) (mb r:Nat) (w3 wr:World):Prop:=
 ∃(left:Int→Bool) (cnt:Nat),eB aW wr mb r (T.map fun q=>(q.1,ptr (ib q.1))) left cnt∧(∀q∈T,left q.1=false→zM T q)∧Keeps (fun b=>b=r) w3 wr
set_option maxRecDepth 100000 in
set_option maxHeartbeats 16000000 in
theorem D8 (w:World) (h:aJ g D w p mb ib nb T) (hP:u7 T):
  Calls Tryz.prog 113 #[ptr p] w fun e w'=>Below w.heap.size w w'∧∃r:Bool,e= .returned (.bool r)∧(r=true↔kC T):=by
 obtain⟨hc0,hpw,hmw⟩:=h.cell
 have hok0:aW.ok 0:=l6 (by omega) (by omega)
 have fM:=Lib.hid h.map
 have HP:=Lib.hid hP
 have hlen:=hP.few
 cases hx:aj (0:Int) T with
 |none=>
  have HG:Hid (aj (0:Int) (T.map fun q=>(q.1,ptr (ib q.1)))=none):=by show _=_;rw[dw,hx];rfl
  have HF:Hid (¬kC T):=fun hR=>by
   have:=hR.1
   unfold bq at this
   rw[hx]at this
   cases this
  clear h hP hx hlen
  go_enter Tryz.func113,Tryz.ntmps113
  go_wp2_with (at_lookup;refine aG aW rfl _ _ 94 92 rfl Tryz.underlying94 (Tryz.aU _) rfl fM.out 0 rfl hok0 ?_;rw[HG.out])
  go_ret
  exact⟨Below.refl _ _,false,rfl,⟨fun h=>(by cases h),fun h=>absurd h HF.out⟩⟩
 |some x=>
  have HG:Hid (aj (0:Int) (T.map fun q=>(q.1,ptr (ib q.1)))=some (ptr (ib 0))):=by show _=_;rw[dw,hx];rfl
  obtain⟨-,c1,-,-,-,-,-,hiw⟩:=(h.item 0 x hx).cell
  by_cases hk:x.kind=2
  ·have g1:(x.kind==2)=true:=by simpa using hk
   have g1':(x.kind !=2)=false:=by simpa using hk
   have hk0:bq T 0=2:=by rw[bI hx];exact hk
   by_cases h64:T.length≤64
   ·have JV:Hid ((T.map fun q=>(q.1,ptr (ib q.1))).length=T.length):=List.length_map _
    obtain⟨n,hn⟩:∃n,n=T.length:=⟨_,rfl⟩
    have d1:decide ((64:Int)<(n:Int))=false:=by simp;omega
    have HN:=Lib.hid hn
    have HH:=Lib.hid h
    have UF:=Lib.hid hk0
    have hmm:= @run_makeMap Tryz.prog
    have Yi:=Lib.hid (MapAt.made (F:=aW) w)
    clear h hP hx hk hk0 hn
    go_enter Tryz.func113,Tryz.ntmps113
    go_wp2_with (first|(at_lookup;refine aG aW rfl _ _ 94 92 rfl Tryz.underlying94 (Tryz.aU _) rfl fM.out 0 rfl hok0 ?_;rw[HG.out])|(at_len;refine gI aW rfl _ 94 92 rfl Tryz.underlying94 rfl fM.out ?_;rw[JV.out,←HN.out])|(refine yw aW rfl _ _ _ 204 3 rfl Tryz.underlying204 rfl Yi.out (by unfold maxLen;simp) 0 (.int .i64 1) rfl rfl hok0 ?_;intro w1 hM1 hT1;have Cc:=Lib.hid hM1;have HT1:=Lib.hid hT1;clear hM1 hT1))
    have hb1:Below w.heap.size w w1:=(wall w (.map #[] 0)).trans ((Keeps.turned HT1.out).jd (by simp) fun z hz (e:z=w.heap.size)=>by omega)
    have HB1:=Lib.hid hb1
    have hm1:MapAt aW w1 w.heap.size (xV [(0,1)]):=Cc.out
    have hA1:=HH.out.below hb1 (Nat.le_refl _)
    have hgc:g w.heap.size= .none:=Classical.byContradiction fun hn=>by have:=HH.out.low _ hn;omega
    have hdc:¬D w.heap.size:=fun hn=>by have:=HH.out.nW _ hn;omega
    have hnl:(aO T 0).length≤65535:=by
     obtain⟨z,hz,-⟩:=fG UF.out
     rw[cB hz]
     exact(HP.out.get hz).few
    have GA:yu T [(0,1)]+(aO T 0).length≤1000000000000:=by
     have h1:zc T [(0,1)]≤T.length:=List.countP_le_length
     have h2:sm [(0,1)]=1:=rfl
     unfold yu
     omega
    have hlk:=zL w.heap.size ⟨hgc,hdc⟩ HP.out 8 (by omega) 0 [(0,1)] w1 hA1 UF.out hm1 (List.pairwise_singleton _ _) (by decide) GA
    rw[show(8-((8:Nat):Int))=0 from rfl]at hlk
    have kW:=Lib.hid hlk
    clear hb1 hm1 hA1 hgc hdc hnl GA hlk hmm
    go_wp2_with fail
    (with_reducible refine kW.out.mono ?_)
    rintro e w2 ⟨hK2,r,rfl,hiff,hok⟩
    have UG:=Lib.hid hiff
    have HB2:=Lib.hid (HB1.out.trans (hK2.jd HB1.out.size fun z hz (e:z=w.heap.size)=>by omega))
    cases r with
    |false=>
     clear hK2 hiff hok
     go_wp2_with fail
     go_ret
     exact⟨HB2.out,false,rfl,⟨fun h=>(by cases h),fun h=>by have:=UG.out.2 h.2.2.1;cases this⟩⟩
    |true=>
     obtain⟨C2,-,hc2,-,-,hm2⟩:=hok rfl
     have Yj:=Lib.hid (hiff.1 rfl)
     have KI:=Lib.hid hc2
     have zW:=Lib.hid hm2
     have HA2:=Lib.hid (HH.out.below HB2.out (Nat.le_refl _))
     have nK:=Lib.hid HA2.out.map
     have hcw2:=hm2.lt
     have Yk:=nK.out.lt
     have hq2:=HA2.out.cell.1
     have hcm:w.heap.size≠mb:=by omega
     clear hc2 hm2 hK2 hiff hok
     go_wp2_with (at_range;refine kU aW rfl _ 94 92 rfl Tryz.underlying94 rfl nK.out ?_;intro w3 rE hB3 hs3)
     go_frame
     have HB3:=Lib.hid hB3
     have HR3:=Lib.hid rE
     clear hB3 rE
     go_loopw [6,7] (fun _ _ wr=>QZ T ib mb w2.heap.size w3 wr) (fun _ _ wr=>wr.rangeLeft mb w2.heap.size)
     case atStart=>
      refine⟨_,_,HR3.out,fun q hq hl=> ?_,Keeps.refl _ _⟩
      rw[dw,aY dB HP.out.sorted hq]at hl
      cases hl
     case round=>
      obtain⟨left,cnt,hR,hall,hK⟩:=hrel
      have HR:=Lib.hid hR
      have yg:=Lib.hid hall
      have HK:=Lib.hid hK
      clear hR hall hK
      go_wp2_with (first|(at_next;refine mJ aW rfl _ rfl rfl HR.out ?_ ?_))
      ·intro hdone
       have Bj:=Lib.hid hdone
       clear hdone
       go_wp2_with fail
       go_ret
       refine⟨HB2.out.trans ((HB3.out.mono HB2.out.size).trans (HK.out.jd (by omega) fun z hz (e:z=w2.heap.size)=>by have:=HB2.out.size;omega)),true,rfl,⟨fun _=>⟨UF.out,h64,Yj.out,fun q hq=>yg.out q hq (Bj.out _)⟩,fun _=>rfl⟩⟩
      ·intro k v w4 cnt1 Ko hleft hg2 mM hlt hK1 hs1 hen
       rw[dw]at hg2
       cases hy:aj k T with
       |none=>rw[hy]at hg2;cases hg2
       |some y=>
        rw[hy]at hg2
        cases hg2
        have hK4:Keeps (fun b=>b=w2.heap.size) w3 w4:=HK.out.trans hK1 fun z _ hz=>hz
        have Yl:=HK.out.size
        have Aw:aJ g D w4 p mb ib nb T:=(HA2.out.below HB3.out (Nat.le_refl _)).keeps hK4 fun z hz (e:z=w2.heap.size)=>by
         rcases hz with hz|hz
         ·have:=HA2.out.low z hz;omega
         ·have:=HA2.out.nW z hz;omega
        obtain⟨-,-,y2,-,-,y5,-,VY⟩:=(Aw.item k y hy).cell
        have Jk:MapAt aW w4 w.heap.size (xV C2):=(zW.out.kept (HB3.out.block _ hcw2)).kept (hK4.block _ (by omega) (by omega))
        obtain⟨cN,FY⟩:∃cN,cN=iE C2 k:=⟨_,rfl⟩
        have hlk:∀n,(Instr.lookup 204 (.map (some w.heap.size)) (.int .i64 k) false).run Tryz.prog (w4.drewN n)= .ok (.int .i64 (cN:Int)) (w4.drewN n):=fun n=>by
         have h9:=MapAt.JI (F:=aW) (w:=w4.drewN n) (t:=204) Tryz.underlying204 (Tryz.dP _) (Jk.kept rfl) k Ko
         rw[xM,←FY]at h9
         exact h9
        have HIS:Hid ((zM T (k,y)↔(cN:Int)=y.links∧¬(y.links=0∧y.closed=true))):=by
         unfold zM
         dsimp only
         rw[FY,KI.out k,Ct]
         exact Lib.hid Iff.rfl
        have LW:Hid ((k,y)∈T):=bR hy
        have HR1:=Lib.hid mM
        have Az:=Lib.hid hlt
        have Cy:=Lib.hid hK4
        have V5:Hid (∀w',Keeps (fun b=>b=w2.heap.size) w3 w'→Below w.heap.size w w'):=fun w' hK=>HB2.out.trans ((HB3.out.mono HB2.out.size).trans (hK.jd (by have:=HB2.out.size;omega) fun z hz (e:z=w2.heap.size)=>by have:=HB2.out.size;omega))
        have Ze:=Lib.hid (fun z (hz:aj z T=some y)=>hz)
        have e3:aW.val k= .int .i64 k:=rfl
        rw[e3]at hen⊢
        have HY:=Lib.hid hy
        clear e3 mM hlt hK4 Aw Jk FY hy hK1 hs1
        have MK:Hid (¬zM T (k,y)→¬kC T):=fun hn hR=>hn (hR.2.2.2 _ LW.out)
        have AA:Hid (zM T (k,y)→∀q∈T,(left q.1&& !decide (q.1=k))=false→zM T q):=fun hrow q hq hl=>by
         by_cases hqk:q.1=k
         ·have h9:=aY dB HP.out.sorted hq
          rw[hqk,HY.out]at h9
          have e9:y=q.2:=Option.some.inj h9
          have:q=(k,y):=Prod.ext hqk e9.symm
          rw[this]
          exact hrow
         ·refine yg.out q hq ?_
          simpa[hqk]using hl
        by_cases hcl:(cN:Int)=y.links
        ·have d2:((cN:Int)==y.links)=true:=by simpa using hcl
         have d3:((cN:Int) !=y.links)=false:=by simpa using hcl
         by_cases hl0:y.links=0
         ·have d4:(y.links==0)=true:=by simpa using hl0
          cases Py:y.closed with
          |true=>
           rw[Py]at y5
           have HF:=Lib.hid (MK.out fun hr=>(HIS.out.1 hr).2 ⟨hl0,Py⟩)
           clear hcl hl0 Py
           go_wp2_with fail
           go_quiet (fail)
           go_wp2_with fail
           go_ret
           exact⟨V5.out _ (Keeps.trans Cy.out (fp':=fun b=>b=w2.heap.size) ⟨rfl,rfl,rfl,Nat.le_refl _,fun _ _ _=>rfl⟩ fun z _ hz=>hz),false,rfl,⟨fun h=>(by cases h),fun h=>absurd h HF.out⟩⟩
          |false=>
           rw[Py]at y5
           have UH:=Lib.hid (AA.out (HIS.out.2 ⟨hcl,fun hh=>by rw[Py]at hh;cases hh.2⟩))
           clear hcl hl0 Py
           go_wp2_with fail
           go_quiet (fail)
           go_wp2_with fail
           go_roundw
           case rel=>exact⟨_,cnt1,HR1.out.kept rfl rfl,UH.out,Keeps.trans Cy.out (fp':=fun b=>b=w2.heap.size) ⟨rfl,rfl,rfl,Nat.le_refl _,fun _ _ _=>rfl⟩ fun z _ hz=>hz⟩
           case measure=>
            have h4:=HR1.out.kept (w':=w4.drewN nq) rfl rfl
            rw[h4.measure,HR.out.measure]
            exact Az.out
         ·have d4:(y.links==0)=false:=by simpa using hl0
          have UH:=Lib.hid (AA.out (HIS.out.2 ⟨hcl,fun hh=>hl0 hh.1⟩))
          clear hcl hl0
          go_wp2_with fail
          go_quiet (fail)
          go_wp2_with fail
          go_roundw
          case rel=>exact⟨_,cnt1,HR1.out.kept rfl rfl,UH.out,Keeps.trans Cy.out (fp':=fun b=>b=w2.heap.size) ⟨rfl,rfl,rfl,Nat.le_refl _,fun _ _ _=>rfl⟩ fun z _ hz=>hz⟩
          case measure=>
           have h4:=HR1.out.kept (w':=w4.drewN nq) rfl rfl
           rw[h4.measure,HR.out.measure]
           exact Az.out
        ·have d2:((cN:Int)==y.links)=false:=by simpa using hcl
         have d3:((cN:Int) !=y.links)=true:=by simpa using hcl
         have HF:=Lib.hid (MK.out fun hr=>hcl (HIS.out.1 hr).1)
         clear hcl
         go_wp2_with fail
         go_quiet (fail)
         go_wp2_with fail
         go_ret
         exact⟨V5.out _ (Keeps.trans Cy.out (fp':=fun b=>b=w2.heap.size) ⟨rfl,rfl,rfl,Nat.le_refl _,fun _ _ _=>rfl⟩ fun z _ hz=>hz),false,rfl,⟨fun h=>(by cases h),fun h=>absurd h HF.out⟩⟩
   ·have JV:Hid ((T.map fun q=>(q.1,ptr (ib q.1))).length=T.length):=List.length_map _
    obtain⟨n,hn⟩:∃n,n=T.length:=⟨_,rfl⟩
    have d1:decide ((64:Int)<(n:Int))=true:=by simp;omega
    have HN:=Lib.hid hn
    have HF:Hid (¬kC T):=fun hR=>by
     have:=hR.2.1
     omega
    clear h hP hx hk hk0 hn h64
    go_enter Tryz.func113,Tryz.ntmps113
    go_wp2_with (first|(at_lookup;refine aG aW rfl _ _ 94 92 rfl Tryz.underlying94 (Tryz.aU _) rfl fM.out 0 rfl hok0 ?_;rw[HG.out])|(at_len;refine gI aW rfl _ 94 92 rfl Tryz.underlying94 rfl fM.out ?_;rw[JV.out,←HN.out]))
    go_ret
    exact⟨Below.refl _ _,false,rfl,⟨fun h=>(by cases h),fun h=>absurd h HF.out⟩⟩
  ·have g1:(x.kind==2)=false:=by simpa using hk
   have g1':(x.kind !=2)=true:=by simpa using hk
   have HF:Hid (¬kC T):=fun hR=>by
    have:=hR.1
    rw[bI hx]at this
    exact hk this
   clear h hP hx hk hlen
   go_enter Tryz.func113,Tryz.ntmps113
   go_wp2_with (at_lookup;refine aG aW rfl _ _ 94 92 rfl Tryz.underlying94 (Tryz.aU _) rfl fM.out 0 rfl hok0 ?_;rw[HG.out])
   go_ret
   exact⟨Below.refl _ _,false,rfl,⟨fun h=>(by cases h),fun h=>absurd h HF.out⟩⟩
end
end Go.Proofs.YtohpcppeajijnaaGreat
