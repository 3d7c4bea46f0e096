/- tree -/
import Derived.Test.YtmflaonodghbcaaGreatDoorM28
import Derived.Test.YtmflaonodghbcaaGreatDoorM14
import Derived.Test.YtmflaonodghbcaaGreatDoorM05
import Derived.Deep.QuietTactic
import Derived.BigQuiet
import Derived.Test.YtmflaonodghbcaaGreatDoorM26
import Derived.Test.YtmflaonodghbcaaGreatDoorM06
set_option maxRecDepth 100000
set_option maxHeartbeats 64000000
set_option linter.all false
namespace Go.Proofs.YtmflaonodghbcaaGreatDoor
open Go.ChangeShapes Go.WideShapes Go.ChangeAt Go.RowKit
def FN(C:rY):List (Int×Value):=C.map fun p=>(p.1,(.int .i64 (p.2:Int):Value))
theorem WM(C:rY)(j:Int):aj j (FN C)=(aj j C).map fun n:Nat=>(.int .i64 (n:Int):Value):=uR (fun n:Nat=>(.int .i64 (n:Int):Value)) j C
theorem EO(C:rY)(j:Int):(aj j (FN C)).getD (.int .i64 0)= .int .i64 (jy C j:Int):=by
 rw[WM];unfold jy;cases aj j C<;>rfl
theorem put_cnV(C:rY)(k:Int):bX jX k (.int .i64 ((jy C k:Int)+1):Value) (FN C)=FN (nY C k):=by
 unfold FN nY;rw[UG jX (fun n:Nat=>(.int .i64 (n:Int):Value)) k (jy C k+1) C];rfl
theorem cnV_len(C:rY):(FN C).length=C.length:=List.length_map _
def iX(T:aI)(C:rY)(n:Nat)(id:Int)(cb:Nat)(w:World)(e:Ending)(w':World):Prop:=
 Keeps (fun b=>b=cb) w w'∧∃r:Bool,e= .returned (.bool r)∧(r=true↔gU T C n id)∧(r=true→∃C',aO jX C'∧(∀j,jy C' j=jy C j+(rC T n id).count j)∧Gq T C'≤Gq T C+(aX T id).length∧C'.length≤sm C'∧MapAt aU w' cb (FN C'))
theorem iX.EP{T:aI}{C:rY}{n:Nat}{id:Int}{cb:Nat}{w w':World}(hk:Keeps (fun b=>b=cb) w w')(h:¬gU T C n id):iX T C n id cb w (.returned (.bool false)) w':=
 ⟨hk,false,rfl,⟨fun h'=>(by cases h'),fun h'=>absurd h' h⟩,fun h'=>(by cases h')⟩
def LkRel(T:aI)(C:rY)(n:Nat)(id:Int)(x:eG)(w:World)(nbk r cb:Nat)(wr:World):Prop:=
 ∃(left:Nm→Bool) (cnt:Nat) (C':rY),eF fT wr nbk r (dJ x) left cnt∧lM T (n-1) C (doneN left x.names) C'∧(n=0→doneN left x.names=[])∧MapAt aU wr cb (FN C')∧Gq T C'≤Gq T C+(doneN left x.names).length∧C'.length≤sm C'∧Keeps (fun b=>b=cb) w wr
theorem inc_len{C:rY}(h:aO jX C)(hl:C.length≤sm C)(k:Int):(nY C k).length≤sm (nY C k):=by
 rw[Oo h];unfold nY bX;rw[uT];have:(bM k C).length≤C.length:=abK _ _;omega
theorem WO(left:Nm→Bool)(l:List (Nm×Int)):(doneN left l).length≤l.length:=abK _ _
section
variable{g:Nat→Own}{D:Nat→Prop}{p mb:Nat}{ib nb:Int→Nat}{T:aI}
theorem ER(n:Nat)(vY:n≤8)(id:Int)(x:eG)(C:rY)(cb:Nat)(w:World)(h:aM g D w p mb ib nb T)(hcb:g cb= .none∧¬D cb)(hcw:cb<w.heap.size)(hP:Cc T)(hx:aj id T=some x)(hk:x.kind=2)
  (hM:MapAt aU w cb (FN C))(hS:aO jX C)(Zw:C.length≤sm C)(Te:Gq T C+x.names.length≤1000000000000)
  (hrec:∀m,n=m+1→∀e∈x.names,bD T e.2=2→∀w1 C1,Keeps (fun b=>b=cb) w w1→MapAt aU w1 cb (FN C1)→aO jX C1→C1.length≤sm C1→Gq T C1+(aX T e.2).length≤1000000000000→Calls Tryz.prog 295 #[ptr p,.int .i64 e.2,.int .i64 (8-(m:Int)),.map (some cb)] w1 (iX T C1 m e.2 cb w1)):
  Calls Tryz.prog 295 #[ptr p,.int .i64 id,.int .i64 (8-(n:Int)),.map (some cb)] w (iX T C n id cb w):=by
 obtain⟨hc0,hpw,hmw⟩:=h.cell;have hPI:=hP.get hx;have xU:=hPI.ok.id;have hok:aU.ok id:=mg xU.1 (by unfold Bc at xU;dsimp only at xU;omega);obtain⟨c0,c1,c2,c3,c4,c5,c7,hiw⟩:=(h.item id x hx).cell;have hget:aj id (T.map fun q=>(q.1,ptr (ib q.1)))=some (ptr (ib id)):=by rw[dH,hx];rfl
 have HG:=ab9 hget;have lT:=ab9 h.map;have HH:=ab9 h;have HREC:=ab9 hrec;have HPI:=ab9 hPI;have HX:=ab9 hx;have HP:=ab9 hP;have Ur:=ab9 hM;have YL:=ab9 hS;have zF:=ab9 Zw;have HPSI:=ab9 Te;have HCB:=ab9 hcb;have hnn:aX T id=x.names:=iW hx;have qJ:=ab9 hnn;have e2:eu x (nb id)= .map (some (nb id)):=if_pos hk;rw[e2]at c7;have HN:=ab9 ((h.item id x hx).names hk);have hbw:=HN.o.lt;have htn:=h.mX id x hx hk;have htm:=h.jg;have htp:=h.qE;have hne1:cb≠nb id:=fun e=>by rw[←e,hcb.1]at htn;cases htn
 have hne2:cb≠mb:=fun e=>by rw[←e,hcb.1]at htm;cases htm
 have hne3:cb≠p:=fun e=>by rw[←e,hcb.1]at htp;cases htp
 have AA:=ab9 hk;have LH:=ab9 (hPI.sorted.apart Dx);clear hget hrec h hk e2 hPI xU hP hM hS Zw Te hcb hnn htn htm htp hx;go_enter Tryz.func295,Tryz.ntmps295;go_wp2_with (first|(at_lookup;refine bJ aU rfl _ _ 186 189 rfl Tryz.underlying186 (Tryz.bW _) rfl lT.o id rfl hok ?_;rw[HG.o])|(at_range;refine lY fT rfl _ 190 3 rfl Tryz.underlying190 rfl HN.o ?_;intro w0 hR0 hB0 hs0))
 go_frame
 go_loopw [10,11,12] (fun _ _ _ wr=>LkRel T C n id x w (nb id) w.heap.size cb wr) (fun _ _ _ wr=>wr.rangeLeft (nb id) w.heap.size)
 case atStart=>
  have hnil:doneN (fun k=>(aj k (dJ x)).isSome) x.names=[]:=Om fun e he=>by
   rw[kZ,bI Dx HPI.o.sorted he];rfl
  refine⟨_,_,C,hR0,by rw[hnil];exact lM.nil YL.o,fun _=>hnil,Ur.o.kept (hB0.block _ hcw),by rw[hnil];exact Nat.le_refl _,zF.o,(Keeps.below hB0).mono fun z hz hz'=>by omega⟩
 case round=>
  obtain⟨left,cnt,C1,hR,hD,hD0,hM1,hps,hl1,hK⟩:=hrel;have HR:=ab9 hR;have HD:=ab9 hD;have HD0:=ab9 hD0;have kr:=ab9 hM1;have HPS:=ab9 hps;have LJ:=ab9 hl1;have HK:=ab9 hK;clear hR hD hD0 hM1 hps hl1 hK;go_wp2_with (first|(at_next;refine nP fT rfl _ rfl rfl HR.o ?_ ?_))
  ·intro hdone;have DK:=ab9 hdone;clear hdone;go_wp2_with fail;go_ret;have hall:doneN left x.names=x.names:=SS DK.o;have hd:=HD.o;rw[hall]at hd;refine⟨HK.o,true,rfl,?_⟩;cases n with
   |zero=>
    have hnil:=HD0.o rfl;rw[hall]at hnil;have hnm:aX T id=[]:=qJ.o.trans hnil;refine⟨⟨fun _=>⟨hnm,fun k hk=>(by unfold rC at hk;cases hk)⟩,fun _=>rfl⟩,fun _=>⟨C1,hd.sorted,fun j=> ?_,?_,LJ.o,kr.o⟩⟩
    ·rw[hd.cnt j,hnil];rfl
    ·have:=HPS.o;rw[hall,hnil]at this;exact Nat.le_trans this (Nat.le_add_right _ _)
   |succ n=>
    rw[←qJ.o]at hd;have hfin:=hd.all;refine⟨⟨fun _=>hfin.1,fun _=>rfl⟩,fun _=>⟨C1,hd.sorted,hfin.2,?_,LJ.o,kr.o⟩⟩;have:=HPS.o;rw[hall,←qJ.o]at this;exact this
  ·intro k v w3 cnt1 Vo hleft hg2 kR hlt hK1 hs1 hen;rw[kZ]at hg2;cases hk2:aj k x.names with
   |none=>rw[hk2]at hg2;cases hg2
   |some j=>
    rw[hk2]at hg2;cases hg2;have hmem:=cZ hk2;have hjb:=HPI.o.ids _ hmem;have uH:aU.ok j:=mg hjb.1 (by have:=hjb.2;dsimp only at this;omega);have hK3:Keeps (fun b=>b=cb) w w3:=HK.o.trans hK1 fun z hz (e:z=w.heap.size)=>by omega
    have hA3:=HH.o.keeps hK3 fun z hz (e:z=cb)=>by
     subst e;rcases hz with hz|hz
     ·exact hz HCB.o.1
     ·exact HCB.o.2 hz
    obtain⟨hc3,hpw3,hmw3⟩:=hA3.cell;have H9:=ab9 hA3.map;have uJ:acd (MapAt aU w3 cb (FN C1)):=kr.o.kept (hK1.block _ (by have:=kr.o.lt;omega) (fun(e:cb=w.heap.size)=>by omega));have hnmem:(k,j)∈aX T id:=by rw[qJ.o];exact hmem
    have Ai:=ab9 hnmem;have FZ:=ab9 hlt;have Dc:=ab9 hleft;have HR1:=ab9 kR;have Tc:=ab9 hK3;have HMEM:=ab9 hmem;have hrw:=kR.lt;have e3:fT.val k= .string (strOf k):=rfl;rw[e3]at hen⊢;clear e3 hlt hleft kR hK3 hmem hnmem hk2 hjb;cases hy:aj j T with
    |none=>
     have U2:acd (aj j (T.map fun q=>(q.1,ptr (ib q.1)))=none):=by show _=_;rw[dH,hy];rfl
     have HF:acd (¬gU T C n id):=by
      cases n with
      |zero=>exact Bh Ai.o
      |succ m=>exact Lx Ai.o (fun hh=>by have h9:=hh.1;dsimp only at h9;rw[hy]at h9;cases h9)
     clear hy;go_wp2_with (at_lookup;refine aS aU rfl _ _ 186 189 rfl Tryz.underlying186 (Tryz.bW _) rfl H9.o j rfl uH ?_;rw[U2.o]);go_ret;exact iX.EP Tc.o HF.o
    |some y=>
     have U2:acd (aj j (T.map fun q=>(q.1,ptr (ib q.1)))=some (ptr (ib j))):=by show _=_;rw[dH,hy];rfl
     obtain⟨-,y1,-,-,-,-,-,hyw⟩:=(hA3.item j y hy).cell;have HY:=ab9 hy;clear hy hA3;by_cases hj0:j=0
     ·have HF:acd (¬gU T C n id):=by
       cases n with
       |zero=>exact Bh Ai.o
       |succ m=>exact Lx Ai.o (fun hh=>hh.2 hj0)
      have d1:(j==0)=true:=by simpa using hj0
      clear hj0;go_wp2_with (at_lookup;refine aS aU rfl _ _ 186 189 rfl Tryz.underlying186 (Tryz.bW _) rfl H9.o j rfl uH ?_;rw[U2.o]);go_ret;exact iX.EP Tc.o HF.o
     ·have d1:(j==0)=false:=by simpa using hj0
      have Js:=ab9 hj0;clear hj0;by_cases hn0:n=0
      ·have HF:acd (¬gU T C n id):=by
        subst hn0;exact Bh Ai.o
       have d2:((8-(n:Int))==8)=true:=by rw[hn0];rfl
       clear hn0;go_wp2_with (at_lookup;refine aS aU rfl _ _ 186 189 rfl Tryz.underlying186 (Tryz.bW _) rfl H9.o j rfl uH ?_;rw[U2.o]);go_ret;exact iX.EP Tc.o HF.o
      ·have d2:((8-(n:Int))==8)=false:=abW.2 (by omega);obtain⟨m,hm⟩:∃m,n=m+1:=⟨n-1,by omega⟩;have FP:=ab9 hm;have hsum:IntKind.i64.wrap (8-(n:Int)+1)=8-(m:Int):=by rw[aah _ (by omega)];omega
       have hlD:acd (lM T m C (doneN left x.names) C1):=by
        have:=HD.o;rw[show n-1=m by omega]at this;exact this
       clear hn0 hm;have hd1:=yh LH.o HMEM.o Dc.o;have hdl:=hd1.length_eq;rw[List.length_append,aaV]at hdl;have hdle:=WO (fun z=>left z&& !decide (z=k)) x.names;have HPERM:=ab9 hd1;have hps:=HPS.o;have Te:=HPSI.o;obtain⟨cN,YM⟩:∃cN,cN=jy C1 j:=⟨_,rfl⟩;have hcs:=Z6 HD.o.sorted j;rw[←YM]at hcs;have hpp:sm C1≤Gq T C1:=by unfold Gq;omega
       have HGC:acd ((aj j (FN C1)).getD (.int .i64 0)= .int .i64 (cN:Int)):=by show _=_;rw[EO,←YM]
       have iQ:acd (∀w',MapAt aU w' cb (bX aU.lt j (.int .i64 ((cN:Int)+1)) (FN C1))→MapAt aU w' cb (FN (nY C1 j))):=fun w' hm=>by
        have e9:bX aU.lt j (.int .i64 ((cN:Int)+1)) (FN C1)=FN (nY C1 j):=by rw[YM];exact put_cnV C1 j
        rw[e9]at hm;exact hm
       have HGC4:acd ((aj j (FN (nY C1 j))).getD (.int .i64 0)= .int .i64 ((cN:Int)+1)):=by show _=_;rw[EO,kK,if_pos rfl,←YM];rfl
       have HLEN:acd ((FN C1).length<maxLen):=by
        show _<_;rw[cnV_len];have:=LJ.o;unfold maxLen;omega
       have HINC:=ab9 (inc_len HD.o.sorted LJ.o j);have e1:IntKind.i64.wrap ((cN:Int)+1)=(cN:Int)+1:=aah _ (by omega);have HCN:=ab9 YM;have ZE:acd (∀w4,w3.mapTurned w4 cb→w4.cell? ⟨ib j,1,none⟩=some (.int .i64 y.kind)):=fun w4 hT=>by
        have hgi:=HH.o.pR j y HY.o;have hne:ib j≠cb:=fun e=>by rw[e,HCB.o.1]at hgi;cases hgi
        exact(World.cell?_of_block (w:=w3) (w':=w4) (a:=⟨ib j,1,none⟩) (cK hT _ hyw hne)).trans y1
       have CF:acd (∀w4,w3.mapTurned w4 cb→Keeps (fun b=>b=cb) w w4∧eF fT w4 (nb id) w.heap.size (dJ x) (fun z=>left z&& !decide (z=k)) cnt1):=fun w4 hT=>
        ⟨Tc.o.trans (Keeps.turned hT) fun z _ hz=>hz,HR1.o.kept (cK hT _ hrw.1 (aaP hne1)) (cK hT _ hrw.2.1 (by omega))⟩
       clear YM hcs hpp hd1;by_cases hkd:y.kind=2
       ·have g1:(y.kind==2)=true:=by simpa using hkd
        have hkj:bD T j=2:=by rw[eP HY.o];exact hkd
        by_cases hc0:cN=0
        ·have dgt:decide ((1:Int)<(cN:Int)+1)=false:=by simp;omega
         have hzc:jy C1 j=0:=by rw[←HCN.o];exact hc0
         have hpd:=Z8 (T:=T) HD.o.sorted (cZ HY.o) hkd hzc;have hnl:(aX T j).length≤65535:=by rw[iW HY.o];exact(HP.o.get HY.o).few
         have HQ:acd (∀w4,w3.mapTurned w4 cb→MapAt aU w4 cb (FN (nY C1 j))→Calls Tryz.prog 295 #[ptr p,.int .i64 j,.int .i64 (8-(m:Int)),.map (some cb)] w4 (iX T (nY C1 j) m j cb w4)):=fun w4 hT hM=>HREC.o m FP.o (k,j) HMEM.o hkj w4 _ (CF.o w4 hT).1 hM (EJ HD.o.sorted j) HINC.o (by dsimp only;omega);have HZC:=ab9 (And.intro hzc hkj);have HPD:=ab9 (And.intro hpd hnl);clear hkd hkj hc0 hzc hpd hnl;go_wp2_with (first|(at_lookup;refine aS aU rfl _ _ 186 189 rfl Tryz.underlying186 (Tryz.bW _) rfl H9.o j rfl uH ?_;rw[U2.o])|(at_lookup;refine bJ aU rfl _ _ 381 3 rfl Tryz.underlying381 (Tryz.jZ _) rfl uJ.o j rfl uH ?_;rw[HGC.o])|(at_mapUpdate;refine lX aU rfl _ _ _ 381 3 rfl Tryz.underlying381 rfl uJ.o HLEN.o j (.int .i64 ((cN:Int)+1)) rfl rfl uH ?_;intro w4 qK sH;have mo:=ab9 (iQ.o _ qK);have Um:=ab9 sH;have hk4:=ZE.o w4 sH;clear qK sH)|(at_lookup;refine bJ aU rfl _ _ 381 3 rfl Tryz.underlying381 (Tryz.jZ _) rfl mo.o j rfl uH ?_;rw[HGC4.o]));refine(HQ.o _ Um.o mo.o).mono ?_;rintro e w5 ⟨hK5,r,rfl,hiff,hok5⟩;have MW:=ab9 (CF.o _ Um.o);have J6:=ab9 hK5;cases r with
         |false=>
          have HF:acd (¬gU T C n id):=by
           have h9:=WG (C:=C) (e:=(k,j)) (by rw[qJ.o];exact LH.o) Ai.o Dc.o (by rw[qJ.o];exact hlD.o) HZC.o.2 (fun hh=>by have:=hiff.2 hh;cases this);rw[←FP.o]at h9;exact h9
          clear hiff hok5 hK5;go_wp2_with fail;go_ret;exact iX.EP (MW.o.1.trans J6.o fun z _ hz=>hz) HF.o
         |true=>
          obtain⟨C2,hs2,hc2,hp2,hl2,hm2⟩:=hok5 rfl;have HD2:acd (lM T m C (doneN (fun z=>left z&& !decide (z=k)) x.names) C2):=(hlD.o.dir (e:=(k,j)) (by dsimp only;rw[HY.o];rfl) Js.o HZC.o.2 HZC.o.1 hs2 hc2 (hiff.1 rfl)).perm HPERM.o;have YN:acd (Gq T C2≤Gq T C+(doneN (fun z=>left z&& !decide (z=k)) x.names).length):=by
           have h8:=HPD.o;show _≤_;omega
          have HL2:=ab9 hl2;have pX:=ab9 hm2;clear hs2 hc2 hp2 hl2 hm2 hiff hok5 hK5;go_wp2_with fail;go_roundw
          case rel=>exact⟨_,cnt1,C2,MW.o.2.kept (J6.o.block _ MW.o.2.lt.1 (aaP hne1)) (J6.o.block _ MW.o.2.lt.2.1 (by omega)),by rw[show n-1=m by have:=FP.o;omega];exact HD2.o,fun h0=>by have:=FP.o;omega,pX.o,YN.o,HL2.o,MW.o.1.trans J6.o fun z _ hz=>hz⟩
          case measure=>
           have h4:=MW.o.2.kept (w':=w5) (J6.o.block _ MW.o.2.lt.1 (aaP hne1)) (J6.o.block _ MW.o.2.lt.2.1 (by omega));rw[h4.measure,HR.o.measure];exact FZ.o
        ·have dgt:decide ((1:Int)<(cN:Int)+1)=true:=by simp;omega
         have HF:acd (¬gU T C n id):=by
          have h9:=WE (C:=C) (n:=m) (e:=(k,j)) (by rw[qJ.o];exact LH.o) Ai.o Dc.o (by rw[qJ.o];exact hlD.o) hkj (by dsimp only;rw[kK,if_pos rfl,←HCN.o];omega);rw[←FP.o]at h9;exact h9
         clear hkd hkj hc0;go_wp2_with (first|(at_lookup;refine aS aU rfl _ _ 186 189 rfl Tryz.underlying186 (Tryz.bW _) rfl H9.o j rfl uH ?_;rw[U2.o])|(at_lookup;refine bJ aU rfl _ _ 381 3 rfl Tryz.underlying381 (Tryz.jZ _) rfl uJ.o j rfl uH ?_;rw[HGC.o])|(at_mapUpdate;refine lX aU rfl _ _ _ 381 3 rfl Tryz.underlying381 rfl uJ.o HLEN.o j (.int .i64 ((cN:Int)+1)) rfl rfl uH ?_;intro w4 qK sH;have mo:=ab9 (iQ.o _ qK);have Um:=ab9 sH;have hk4:=ZE.o w4 sH;clear qK sH)|(at_lookup;refine bJ aU rfl _ _ 381 3 rfl Tryz.underlying381 (Tryz.jZ _) rfl mo.o j rfl uH ?_;rw[HGC4.o]));go_ret;exact iX.EP (CF.o _ Um.o).1 HF.o
       ·have g1:(y.kind==2)=false:=by simpa using hkd
        have HD2:acd (lM T m C (doneN (fun z=>left z&& !decide (z=k)) x.names) (nY C1 j)):=(hlD.o.file (e:=(k,j)) (by dsimp only;rw[HY.o];rfl) Js.o (by dsimp only;rw[eP HY.o];exact hkd)).perm HPERM.o;have YN:acd (Gq T (nY C1 j)≤Gq T C+(doneN (fun z=>left z&& !decide (z=k)) x.names).length):=by
         have h8:=Z7 (T:=T) HD.o.sorted j;show _≤_;omega
        clear hkd;go_wp2_with (first|(at_lookup;refine aS aU rfl _ _ 186 189 rfl Tryz.underlying186 (Tryz.bW _) rfl H9.o j rfl uH ?_;rw[U2.o])|(at_lookup;refine bJ aU rfl _ _ 381 3 rfl Tryz.underlying381 (Tryz.jZ _) rfl uJ.o j rfl uH ?_;rw[HGC.o])|(at_mapUpdate;refine lX aU rfl _ _ _ 381 3 rfl Tryz.underlying381 rfl uJ.o HLEN.o j (.int .i64 ((cN:Int)+1)) rfl rfl uH ?_;intro w4 qK sH;have mo:=ab9 (iQ.o _ qK);have Um:=ab9 sH;have hk4:=ZE.o w4 sH;clear qK sH)|(at_lookup;refine bJ aU rfl _ _ 381 3 rfl Tryz.underlying381 (Tryz.jZ _) rfl mo.o j rfl uH ?_;rw[HGC4.o]));have MW:=ab9 (CF.o _ Um.o);go_roundw
        case rel=>exact⟨_,cnt1,_,MW.o.2,by rw[show n-1=m by have:=FP.o;omega];exact HD2.o,fun h0=>by have:=FP.o;omega,mo.o,YN.o,HINC.o,MW.o.1⟩
        case measure=>
         rw[MW.o.2.measure,HR.o.measure];exact FZ.o
theorem H_(cb:Nat)(hcb:g cb= .none∧¬D cb)(hP:Cc T):∀(n:Nat) (hn:n≤8) (id:Int) (C:rY) (w:World),aM g D w p mb ib nb T→bD T id=2→MapAt aU w cb (FN C)→aO jX C→C.length≤sm C→Gq T C+(aX T id).length≤1000000000000→
  Calls Tryz.prog 295 #[ptr p,.int .i64 id,.int .i64 (8-(n:Int)),.map (some cb)] w (iX T C n id cb w)
 |0,hn,id,C,w,h,hk,hM,hS,hl,hp=>by
  obtain⟨x,hx,hxk⟩:=gT hk;rw[iW hx]at hp;exact ER 0 hn id x C cb w h hcb hM.lt hP hx hxk hM hS hl hp fun m e=>by omega
 |n+1,hn,id,C,w,h,hk,hM,hS,hl,hp=>by
  obtain⟨x,hx,hxk⟩:=gT hk;rw[iW hx]at hp;refine ER (n+1) hn id x C cb w h hcb hM.lt hP hx hxk hM hS hl hp fun m hm e he hke w1 C1 hK hM1 hS1 hl1 hp1=> ?_;obtain rfl:m=n:=by omega
  exact H_ cb hcb hP m (by omega) e.2 C1 w1 (h.keeps hK fun z hz (e:z=cb)=>by
   subst e;rcases hz with hz|hz
   ·exact hz hcb.1
   ·exact hcb.2 hz) hke hM1 hS1 hl1 hp1
end
section
variable{P:Program}{K:TypeId}{κ:Type}[DecidableEq κ](F:Am P K κ)
variable{w:World}{ops:Array Oper}{rest:List Oper}{o:Oper}{a:Act}{Q:Exit→Act→World→Prop}
theorem Gs(hg:Region.wanted o (yielded ops a.tmps)=true)(m x v:Operand)(t e:TypeId)(hop:o.op=Op.insert t m x v)(ht:P.underlying t=some (.map K e))
  {b:Nat}{l:List (κ×Value)}(hm:a.eval m= .map (some b))(hM:MapAt F w b l)(hn:l.length<maxLen)(k:κ)(val:Value)(hx:a.eval x=F.val k)(hv:a.eval v=val)(hok:F.ok k)
  (h:∀w',MapAt F w' b (bX F.lt k val l)→w.mapTurned w' b→wpList P ops Q rest (a.put o.dst undef) w'):wpList P ops Q (o::rest) a w:=by
 refine aa5 hg fun K' hK=> ?_;obtain⟨w',hrun,r1,r2⟩:=MapAt.oZ F ht hM hn k val hok;unfold Oper.wp;simp[execOp,hop,hm,hx,hv,hrun,Result.andThen];exact hK _ _ (h w' r1 r2)
theorem MapAt.WQ{t e:TypeId}(ht:P.underlying t=some (.map K e)){z:Value}(hz:(zeroValue e).run P w= .ok z w){b:Nat}{l:List (κ×Value)}(hM:MapAt F w b l)(k:κ)(hok:F.ok k):
  (Instr.lookup t (.map (some b)) (F.val k) false).run P w= .ok ((aj k l).getD z) w:=by
 obtain⟨v,ps,hrun,hv⟩:=World.ownsMap.lookup hM F.law ht hz (zd:= .held z) (zp:=[]) rfl (F.of k hok);rw[IQ]at hv;have hv':v=(aj k l).getD z:=by
  simp only[mV,aag,aa7]at hv;have:=hv.1;cases hg':aj k l with
  |none=>rw[hg']at this;simpa using this
  |some u=>rw[hg']at this;simpa using this
 rw[hv']at hrun;exact hrun
end
section
variable{g:Nat→Own}{D:Nat→Prop}{p mb:Nat}{ib nb:Int→Nat}{T:aI}
def Ia(T:aI)(q:Int×eG):Prop:=(((if q.1=0 then 1 else 0)+(rC T 8 0).count q.1:Nat):Int)=q.2.links∧¬(q.2.links=0∧q.2.closed=true)
def RtRel(T:aI)(ib:Int→Nat)(mb r:Nat)(w3 wr:World):Prop:=
 ∃(left:Int→Bool) (cnt:Nat),eF aU wr mb r (T.map fun q=>(q.1,ptr (ib q.1))) left cnt∧(∀q∈T,left q.1=false→Ia T q)∧Keeps (fun b=>b=r) w3 wr
theorem OA(w:World)(h:aM g D w p mb ib nb T)(hP:Cc T):
  Calls Tryz.prog 276 #[ptr p] w fun e w'=>Below w.heap.size w w'∧∃r:Bool,e= .returned (.bool r)∧(r=true↔ny T):=by
 obtain⟨hc0,hpw,hmw⟩:=h.cell;have hok0:aU.ok 0:=mg (by omega) (by omega);have lT:=ab9 h.map;have HP:=ab9 hP;have hlen:=hP.few;cases hx:aj (0:Int) T with
 |none=>
  have HG:acd (aj (0:Int) (T.map fun q=>(q.1,ptr (ib q.1)))=none):=by show _=_;rw[dH,hx];rfl
  have HF:acd (¬ny T):=fun hR=>by
   have:=hR.1;unfold bD at this;rw[hx]at this;cases this
  clear h hP hx hlen;go_enter Tryz.func276,Tryz.ntmps276;go_wp2_with (at_lookup;refine aS aU rfl _ _ 186 189 rfl Tryz.underlying186 (Tryz.bW _) rfl lT.o 0 rfl hok0 ?_;rw[HG.o]);go_ret;exact⟨Below.refl _ _,false,rfl,⟨fun h=>(by cases h),fun h=>absurd h HF.o⟩⟩
 |some x=>
  have HG:acd (aj (0:Int) (T.map fun q=>(q.1,ptr (ib q.1)))=some (ptr (ib 0))):=by show _=_;rw[dH,hx];rfl
  obtain⟨-,c1,-,-,-,-,-,hiw⟩:=(h.item 0 x hx).cell;by_cases hk:x.kind=2
  ·have g1:(x.kind==2)=true:=by simpa using hk
   have g1':(x.kind !=2)=false:=by simpa using hk
   have hk0:bD T 0=2:=by rw[eP hx];exact hk
   by_cases h64:T.length≤64
   ·have Uw:acd ((T.map fun q=>(q.1,ptr (ib q.1))).length=T.length):=List.length_map _;obtain⟨n,hn⟩:∃n,n=T.length:=⟨_,rfl⟩;have d1:decide ((64:Int)<(n:Int))=false:=by simp;omega
    have HN:=ab9 hn;have HH:=ab9 h;have VJ:=ab9 hk0;have hmm:= @abT Tryz.prog;have HM0:=ab9 (MapAt.made (F:=aU) w);clear h hP hx hk hk0 hn;go_enter Tryz.func276,Tryz.ntmps276;go_wp2_with (first|(at_lookup;refine aS aU rfl _ _ 186 189 rfl Tryz.underlying186 (Tryz.bW _) rfl lT.o 0 rfl hok0 ?_;rw[HG.o])|(at_len;refine lH aU rfl _ 186 189 rfl Tryz.underlying186 rfl lT.o ?_;rw[Uw.o,←HN.o])|(refine Gs aU rfl _ _ _ 381 3 rfl Tryz.underlying381 rfl HM0.o (by unfold maxLen;simp) 0 (.int .i64 1) rfl rfl hok0 ?_;intro w1 hM1 hT1;have kr:=ab9 hM1;have HT1:=ab9 hT1;clear hM1 hT1));have hb1:Below w.heap.size w w1:=(wall w (.map #[] 0)).trans ((Keeps.turned HT1.o).bQ (by simp) fun z hz (e:z=w.heap.size)=>by omega);have HB1:=ab9 hb1;have hm1:MapAt aU w1 w.heap.size (FN [(0,1)]):=kr.o;have hA1:=HH.o.below hb1 ace;have hgc:g w.heap.size= .none:=abr fun hn=>by have:=HH.o.low _ hn;omega
    have hdc:¬D w.heap.size:=fun hn=>by have:=HH.o.oN _ hn;omega
    have hnl:(aX T 0).length≤65535:=by
     obtain⟨z,hz,-⟩:=gT VJ.o;rw[iW hz];exact(HP.o.get hz).few
    have Te:Gq T [(0,1)]+(aX T 0).length≤1000000000000:=by
     have h1:zc T [(0,1)]≤T.length:=List.countP_le_length;have h2:sm [(0,1)]=1:=rfl;unfold Gq;omega
    have hlk:=H_ w.heap.size ⟨hgc,hdc⟩ HP.o 8 (by omega) 0 [(0,1)] w1 hA1 VJ.o hm1 (List.pairwise_singleton _ _) (by decide) Te;rw[show(8-((8:Nat):Int))=0 from rfl]at hlk;have yO:=ab9 hlk;clear hb1 hm1 hA1 hgc hdc hnl Te hlk hmm;go_wp2_with fail;refine yO.o.mono ?_;rintro e w2 ⟨hK2,r,rfl,hiff,hok⟩;have HIFF:=ab9 hiff;have HB2:=ab9 (HB1.o.trans (hK2.bQ HB1.o.size fun z hz (e:z=w.heap.size)=>by omega));cases r with
    |false=>
     clear hK2 hiff hok;go_wp2_with fail;go_ret;exact⟨HB2.o,false,rfl,⟨fun h=>(by cases h),fun h=>by have:=HIFF.o.2 h.2.2.1;cases this⟩⟩
    |true=>
     obtain⟨C2,-,hc2,-,-,hm2⟩:=hok rfl;have Z5:=ab9 (hiff.1 rfl);have sI:=ab9 hc2;have pX:=ab9 hm2;have HA2:=ab9 (HH.o.below HB2.o ace);have HMAP2:=ab9 HA2.o.map;have hcw2:=hm2.lt;have hmw2:=HMAP2.o.lt;have hq2:=HA2.o.cell.1;have hcm:w.heap.size≠mb:=by omega
     clear hc2 hm2 hK2 hiff hok;go_wp2_with (at_range;refine lY aU rfl _ 186 189 rfl Tryz.underlying186 rfl HMAP2.o ?_;intro w3 BR hB3 hs3)
     go_frame
     have HB3:=ab9 hB3;have HR3:=ab9 BR;clear hB3 BR
     go_loopw [6,7] (fun _ _ wr=>RtRel T ib mb w2.heap.size w3 wr) (fun _ _ wr=>wr.rangeLeft mb w2.heap.size)
     case atStart=>
      refine⟨_,_,HR3.o,fun q hq hl=> ?_,Keeps.refl _ _⟩;rw[dH,bI dU HP.o.sorted hq]at hl;cases hl
     case round=>
      obtain⟨left,cnt,hR,hall,hK⟩:=hrel;have HR:=ab9 hR;have HALL:=ab9 hall;have HK:=ab9 hK;clear hR hall hK;go_wp2_with (first|(at_next;refine nP aU rfl _ rfl rfl HR.o ?_ ?_))
      ·intro hdone;have DK:=ab9 hdone;clear hdone;go_wp2_with fail;go_ret;refine⟨HB2.o.trans ((HB3.o.mono HB2.o.size).trans (HK.o.bQ (by omega) fun z hz (e:z=w2.heap.size)=>by have:=HB2.o.size;omega)),true,rfl,⟨fun _=>⟨VJ.o,h64,Z5.o,fun q hq=>HALL.o q hq (DK.o _)⟩,fun _=>rfl⟩⟩
      ·intro k v w4 cnt1 Vo hleft hg2 kR hlt hK1 hs1 hen;rw[dH]at hg2;cases hy:aj k T with
       |none=>rw[hy]at hg2;cases hg2
       |some y=>
        rw[hy]at hg2;cases hg2;have hK4:Keeps (fun b=>b=w2.heap.size) w3 w4:=HK.o.trans hK1 fun z _ hz=>hz;have hs3':=HK.o.size;have MN:aM g D w4 p mb ib nb T:=(HA2.o.below HB3.o ace).keeps hK4 fun z hz (e:z=w2.heap.size)=>by
         rcases hz with hz|hz
         ·have:=HA2.o.low z hz;omega
         ·have:=HA2.o.oN z hz;omega
        obtain⟨-,-,y2,-,-,y5,-,hyw⟩:=(MN.item k y hy).cell;have GY:MapAt aU w4 w.heap.size (FN C2):=(pX.o.kept (HB3.o.block _ hcw2)).kept (hK4.block _ (by omega) (by omega));obtain⟨cN,YM⟩:∃cN,cN=jy C2 k:=⟨_,rfl⟩;have hlk:∀n,(Instr.lookup 381 (.map (some w.heap.size)) (.int .i64 k) false).run Tryz.prog (w4.drewN n)= .ok (.int .i64 (cN:Int)) (w4.drewN n):=fun n=>by
         have h9:=MapAt.WQ (F:=aU) (w:=w4.drewN n) (t:=381) Tryz.underlying381 (Tryz.jZ _) (GY.kept rfl) k Vo;rw[EO,←YM]at h9;exact h9
        have HIS:acd ((Ia T (k,y)↔(cN:Int)=y.links∧¬(y.links=0∧y.closed=true))):=by
         unfold Ia;dsimp only;rw[YM,sI.o k,LA];exact ab9 Iff.rfl
        have HMEM:acd ((k,y)∈T):=cZ hy;have HR1:=ab9 kR;have FZ:=ab9 hlt;have rM:=ab9 hK4;have OB:acd (∀w',Keeps (fun b=>b=w2.heap.size) w3 w'→Below w.heap.size w w'):=fun w' hK=>HB2.o.trans ((HB3.o.mono HB2.o.size).trans (hK.bQ (by have:=HB2.o.size;omega) fun z hz (e:z=w2.heap.size)=>by have:=HB2.o.size;omega));have HGT:=ab9 (fun z (hz:aj z T=some y)=>hz);have e3:aU.val k= .int .i64 k:=rfl;rw[e3]at hen⊢;have HY:=ab9 hy;clear e3 kR hlt hK4 MN GY YM hy hK1 hs1;have HFAIL:acd (¬Ia T (k,y)→¬ny T):=fun hn hR=>hn (hR.2.2.2 _ HMEM.o);have WK:acd (Ia T (k,y)→∀q∈T,(left q.1&& !decide (q.1=k))=false→Ia T q):=fun hrow q hq hl=>by
         by_cases hqk:q.1=k
         ·have h9:=bI dU HP.o.sorted hq;rw[hqk,HY.o]at h9;have e9:y=q.2:=aaH h9;have:q=(k,y):=abk hqk e9.symm;rw[this];exact hrow
         ·refine HALL.o q hq ?_;simpa[hqk]using hl
        by_cases hcl:(cN:Int)=y.links
        ·have d2:((cN:Int)==y.links)=true:=by simpa using hcl
         have d3:((cN:Int) !=y.links)=false:=by simpa using hcl
         by_cases hl0:y.links=0
         ·have d4:(y.links==0)=true:=by simpa using hl0
          cases hyc:y.closed with
          |true=>
           rw[hyc]at y5;have HF:=ab9 (HFAIL.o fun hr=>(HIS.o.1 hr).2 ⟨hl0,hyc⟩);clear hcl hl0 hyc;go_wp2_with fail
           go_quiet (fail)
           go_wp2_with fail;go_ret;exact⟨OB.o _ (Keeps.trans rM.o (fp':=fun b=>b=w2.heap.size) ⟨rfl,rfl,rfl,Nat.le_refl _,fun _ _ _=>rfl⟩ fun z _ hz=>hz),false,rfl,⟨fun h=>(by cases h),fun h=>absurd h HF.o⟩⟩
          |false=>
           rw[hyc]at y5;have Sc:=ab9 (WK.o (HIS.o.2 ⟨hcl,fun hh=>by rw[hyc]at hh;cases hh.2⟩));clear hcl hl0 hyc;go_wp2_with fail
           go_quiet (fail)
           go_wp2_with fail;go_roundw
           case rel=>exact⟨_,cnt1,HR1.o.kept rfl rfl,Sc.o,Keeps.trans rM.o (fp':=fun b=>b=w2.heap.size) ⟨rfl,rfl,rfl,Nat.le_refl _,fun _ _ _=>rfl⟩ fun z _ hz=>hz⟩
           case measure=>
            have h4:=HR1.o.kept (w':=w4.drewN nq) rfl rfl;rw[h4.measure,HR.o.measure];exact FZ.o
         ·have d4:(y.links==0)=false:=by simpa using hl0
          have Sc:=ab9 (WK.o (HIS.o.2 ⟨hcl,fun hh=>hl0 hh.1⟩));clear hcl hl0;go_wp2_with fail
          go_quiet (fail)
          go_wp2_with fail;go_roundw
          case rel=>exact⟨_,cnt1,HR1.o.kept rfl rfl,Sc.o,Keeps.trans rM.o (fp':=fun b=>b=w2.heap.size) ⟨rfl,rfl,rfl,Nat.le_refl _,fun _ _ _=>rfl⟩ fun z _ hz=>hz⟩
          case measure=>
           have h4:=HR1.o.kept (w':=w4.drewN nq) rfl rfl;rw[h4.measure,HR.o.measure];exact FZ.o
        ·have d2:((cN:Int)==y.links)=false:=by simpa using hcl
         have d3:((cN:Int) !=y.links)=true:=by simpa using hcl
         have HF:=ab9 (HFAIL.o fun hr=>hcl (HIS.o.1 hr).1);clear hcl;go_wp2_with fail
         go_quiet (fail)
         go_wp2_with fail;go_ret;exact⟨OB.o _ (Keeps.trans rM.o (fp':=fun b=>b=w2.heap.size) ⟨rfl,rfl,rfl,Nat.le_refl _,fun _ _ _=>rfl⟩ fun z _ hz=>hz),false,rfl,⟨fun h=>(by cases h),fun h=>absurd h HF.o⟩⟩
   ·have Uw:acd ((T.map fun q=>(q.1,ptr (ib q.1))).length=T.length):=List.length_map _;obtain⟨n,hn⟩:∃n,n=T.length:=⟨_,rfl⟩;have d1:decide ((64:Int)<(n:Int))=true:=by simp;omega
    have HN:=ab9 hn;have HF:acd (¬ny T):=fun hR=>by
     have:=hR.2.1;omega
    clear h hP hx hk hk0 hn h64;go_enter Tryz.func276,Tryz.ntmps276;go_wp2_with (first|(at_lookup;refine aS aU rfl _ _ 186 189 rfl Tryz.underlying186 (Tryz.bW _) rfl lT.o 0 rfl hok0 ?_;rw[HG.o])|(at_len;refine lH aU rfl _ 186 189 rfl Tryz.underlying186 rfl lT.o ?_;rw[Uw.o,←HN.o]));go_ret;exact⟨Below.refl _ _,false,rfl,⟨fun h=>(by cases h),fun h=>absurd h HF.o⟩⟩
  ·have g1:(x.kind==2)=false:=by simpa using hk
   have g1':(x.kind !=2)=true:=by simpa using hk
   have HF:acd (¬ny T):=fun hR=>by
    have:=hR.1;rw[eP hx]at this;exact hk this
   clear h hP hx hk hlen;go_enter Tryz.func276,Tryz.ntmps276;go_wp2_with (at_lookup;refine aS aU rfl _ _ 186 189 rfl Tryz.underlying186 (Tryz.bW _) rfl lT.o 0 rfl hok0 ?_;rw[HG.o]);go_ret;exact⟨Below.refl _ _,false,rfl,⟨fun h=>(by cases h),fun h=>absurd h HF.o⟩⟩
end
theorem Ib(b:List UInt8):0≤(bL b).1.id∧(bL b).1.id≤65535:=by
 unfold bL;split
 ·exact(tQ b).id
 ·exact⟨by decide,by decide⟩
theorem read_id{s:Rd}{q:(Int×eG)×Rd}(h:iC s=some q):0≤q.1.1∧q.1.1≤65535:=by
 unfold iC at h;dsimp only at h;split at h
 ·cases h
 ·split at h
  ·split at h
   ·cases h;exact Ib _
   ·cases h
  ·split at h
   ·cases h
   ·cases h;exact Ib _
def jT(bs:List UInt8)(w:World)(e:Ending)(w':World):Prop:=
 (∃T p,parseM bs=some T∧ny T∧e= .returned (.tuple #[ptr p,.int .i64 0])∧qU w p T w')∨((∀T,parseM bs=some T→¬ny T)∧e= .returned (.tuple #[.pointer none,.int .i64 12])∧Below w.heap.size w w')
theorem jT.no{bs:List UInt8}{w w':World}(h:∀T,parseM bs=some T→¬ny T)(hb:Below w.heap.size w w'):jT bs w (.returned (.tuple #[.pointer none,.int .i64 12])) w':= .inr ⟨h,rfl,hb⟩
def LdRel(Dr:Nat→Prop)(w w1:World)(x p mb cnt:Nat)(s0:Rd)(lv iv:Value)(wr:World):Prop:=
 ∃(k:Nat) (sr:Rd) (last:Int) (acc:aI) (g:Nat→Own) (D:Nat→Prop) (ib nb:Int→Nat),iv= .int .i64 k∧k≤cnt∧lv= .int .i64 last∧-1≤last∧last≤65535∧qg (cnt-k) sr last acc=qg cnt s0 (-1) []∧(∀q∈acc,q.1≤last)∧acc.length=k∧
  bg Dr wr x sr∧aM g D wr p mb ib nb acc∧(∀b,g b≠ .none∨D b→w1.heap.size≤b)∧Below w.heap.size w wr
theorem OC{w1 w2:World}(hw:w2=(w1.alloc (.map #[] 0)).alloc (.cells #[.map (some w1.heap.size)] 188)):aM (fun b=>if b=w1.heap.size+1 then .head else if b=w1.heap.size then .items else .none) (fun _=>False) w2 (w1.heap.size+1) w1.heap.size (fun _=>0) (fun _=>0) []:=by
 have hs:w2.heap.size=w1.heap.size+2:=by rw[hw];simp
 refine⟨?_,?_,fun k x h=>(by cases h),by simp,by simp,fun k x h=>(by cases h),fun k x h=>(by cases h),fun b h=>h.elim,fun b hb=> ?_,fun b h=>h.elim⟩
 ·rw[hw];have:=(MapKept.heap_alloc (w1.alloc (.map #[] 0)) (.cells #[.map (some w1.heap.size)] 188)).1;rw[Pd]at this;exact this
 ·rw[hw];exact(MapAt.made (F:=aU) w1).kept ((wall _ _).block _ (by simp))
 ·by_cases h1:b=w1.heap.size+1
  ·omega
  ·by_cases h2:b=w1.heap.size
   ·omega
   ·rw[if_neg h1,if_neg h2]at hb;exact absurd rfl hb
theorem Ic{S:Nat→Prop}(a:Option Addr)(n c:Nat)(bs:List UInt8)(w:World)(hm:n≤100000000)(hr:ah S w a n (bs.map bv)):
  Calls Tryz.prog 253 #[.slice a n c] w (jT bs w):=by
 have HN:=ab9 (nI a n c bs w hm hr);have hmm:= @abT Tryz.prog;clear hr;go_enter Tryz.func253,Tryz.ntmps253;go_wp2_with fail;refine HN.o.mono ?_;rintro e w1 ⟨x,rfl,hx,kR,hb1⟩;have HX:=ab9 hx;have HB1:=ab9 hb1;have hxw:=kR.lt;have HR1:=ab9 kR;clear hx hb1 kR HN;go_wp2_with fail;obtain⟨w2,hw2⟩:∃w2,w2=(w1.alloc (.map #[] 0)).alloc (.cells #[.map (some w1.heap.size)] 188):=⟨_,rfl⟩;rw[←hw2];have hb2:Below w1.heap.size w1 w2:=by rw[hw2];exact(wall w1 _).trans ((wall _ _).mono (by simp))
 have HT2:=ab9 (OC hw2);have hs2:w2.heap.size=w1.heap.size+2:=by rw[hw2];simp
 have HB2:=ab9 hb2;obtain⟨Dr,hDr⟩:∃Dr:Nat→Prop,Dr=fun b=>w.heap.size≤b∧b<x:=⟨_,rfl⟩;have HDR:=ab9 (fun b (hb:Dr b)=>(by rw[hDr]at hb;exact hb:w.heap.size≤b∧b<x));rw[←hDr]at HR1;have HR2:=ab9 (HR1.o.below hb2 ace);have HS:=ab9 (nV HR2.o);obtain⟨cnt,hcnt⟩:∃cnt:Nat,(bB (bs,0) 2).1=(cnt:Int):=⟨(bB (bs,0) 2).1.toNat,by have:=fQ (bs,0) 2;omega⟩;have hcb:cnt<65536:=by
  have h1:=fQ (bs,0) 2;have:(256:Int)^2=65536:=rfl;omega
 obtain⟨s0,hs0⟩:∃t,t=(bB (bs,0) 2).2:=⟨_,rfl⟩;rw[hcnt,←hs0]at HS;have HPA:acd (parseM bs=match qg cnt s0 (-1) []with|none=>none|some q=>if qF q.2=0 then some q.1 else none):=by
  show _=_;unfold parseM;rw[hcnt,←hs0,Int.toNat_natCast];rfl
 clear hw2 hb2 hDr hcnt hs0 hmm;go_wp2_with fail;refine HS.o.mono ?_;rintro e w3 ⟨rfl,BR,hK3⟩;have HR3:=ab9 BR;have HB3:acd (Below w.heap.size w w3):=HB1.o.trans ((HB2.o.mono HB1.o.size).trans (vJ hK3 HX.o (by have:=HB1.o.size;omega)));have HT3:=ab9 (HT2.o.keeps hK3 fun z hz (e:z=x)=>by
  subst e;rcases hz with hz|hz
  ·rw[if_neg (by omega),if_neg (by omega)]at hz;exact hz rfl
  ·exact hz)
 clear BR hK3 HS HR2 HT2;go_wp2_with fail
 go_loopw [6,7,8,16] (fun lv _ _ iv wr=>LdRel Dr w w1 x (w1.heap.size+1) w1.heap.size cnt s0 lv iv wr) (fun _ _ _ iv _=>cnt-(intOf iv).toNat)
 case atStart=>
  refine⟨0,s0,-1,[],_,_,_,_,rfl,Nat.zero_le _,rfl,by omega,by omega,rfl,fun q hq=>(by cases hq),rfl,HR3.o,HT3.o,fun b hb=> ?_,HB3.o⟩;rcases hb with hb|hb
  ·refine abr fun hn=> ?_;rw[if_neg (by omega),if_neg (by omega)]at hb;exact hb rfl
  ·exact hb.elim
 case round=>
  obtain⟨k,sr,last,acc,g,D,ib,nb,rfl,hk,rfl,hl0,hl1,hrd,hal,hac,hRr,hTr,hnew,hB⟩:=hrel;have zR:=ab9 hrd;have V_:=ab9 hal;have HAC:=ab9 hac;have HRR:=ab9 hRr;have Oi:=ab9 hTr;have Bl:=ab9 hnew;have HB:=ab9 hB;clear hrd hal hac hRr hTr hnew hB;by_cases hlt:k<cnt
  ·have HI:=ab9 (Ta HRR.o);go_wp2_with fail;refine HI.o.mono ?_;rintro e w4 ⟨hK4,GY⟩;have dh:acd (Below w.heap.size w w4):=HB.o.trans (vJ hK4 HX.o HB.o.size);cases hq:iC sr with
   |none=>
    rw[hq]at GY;obtain⟨v,rfl⟩:=GY;have HF:acd (∀T,parseM bs=some T→¬ny T):=fun T hT=>by
     rw[HPA.o,←zR.o,show cnt-k=(cnt-(k+1))+1 by omega,Ca hq]at hT;cases hT
    clear hq hK4 HI;go_wp2_with fail
    go_ret2
    exact jT.no HF.o dh.o
   |some q=>
    rw[hq]at GY;obtain⟨i,nn,D3,rfl,xD,hI4,hi1,hi2,hn1,hd3⟩:=GY;obtain⟨q0,q1⟩:=read_id hq;obtain⟨c0,-,-,-,-,-,-,hiw⟩:=hI4.cell;by_cases hle:q.1.1≤last
    ·have HF:acd (∀T,parseM bs=some T→¬ny T):=fun T hT=>by
      rw[HPA.o,←zR.o,show cnt-k=(cnt-(k+1))+1 by omega,qQ hq,if_pos hle]at hT;cases hT
     have d1:decide (q.1.1≤last)=true:=by simpa using hle
     clear hq hK4 xD hI4 hn1 hd3 HI hle;go_wp2_with fail
     go_ret2
     exact jT.no HF.o dh.o
    ·have d1:decide (q.1.1≤last)=false:=by simpa using hle
     have hxg:g x= .none:=abr fun hn=>by have:=Bl.o x (.inl hn);omega
     have hxd:¬D x:=fun hn=>by have:=Bl.o x (.inr hn);omega
     have sH:aM g D w4 (w1.heap.size+1) w1.heap.size ib nb acc:=Oi.o.keeps hK4 fun z hz (e:z=x)=>by
      subst e;rcases hz with hz|hz
      ·exact hz hxg
      ·exact hxd hz
     obtain⟨hc4,hpw4,hmw4⟩:=sH.cell;have hokq:aU.ok q.1.1:=mg q0 (by omega);have hlast:∀y∈acc,y.1≠q.1.1∧jX q.1.1 y.1=false:=fun y hy=>by
      have h9:=V_.o y hy;exact⟨by omega,aaf (by omega)⟩
     have iQ:acd (bX jX q.1.1 q.1.2 acc=acc++[q.1]):=Hz jX q.1.2 hlast;have Uu:acd (aj q.1.1 acc=none):=jW.2 fun y hy=>(hlast y hy).1;have HLEN:acd ((acc.map fun q=>(q.1,ptr (ib q.1))).length<maxLen):=by
      show _<_;rw[List.length_map,HAC.o];unfold maxLen;omega
     have mo:=ab9 sH.map;have Um:=ab9 sH;have HQ:=ab9 hq;have rM:=ab9 hK4;have HR4:=ab9 xD;have HI4:=ab9 hI4;have HI1:=ab9 (And.intro hi1 hi2);have zV:=ab9 hn1;have HD3:=ab9 hd3;have Gb:=ab9 hle;have hs4:=hK4.size;clear hq hK4 xD hI4 hn1 hd3 HI hle sH hlast hxg hxd;obtain⟨qk,hqk⟩:∃qk,qk=q.1.1:=⟨_,rfl⟩;rw[←hqk]at c0 d1 hokq iQ Uu HI4 Gb q0 q1;have HQK:=ab9 hqk;clear hqk;go_wp2_with (at_mapUpdate;refine lX aU rfl _ _ _ 186 189 rfl Tryz.underlying186 rfl mo.o HLEN.o qk (ptr i) rfl rfl hokq ?_;intro w5 Ni Yz;have vI:=ab9 Ni;have WR:=ab9 Yz;clear Ni Yz);go_roundw
     case rel=>
      have hs5:=fI WR.o;have hn1:=zV.o;have hi1':=HI1.o.1;have hi2':=HI1.o.2;have hnone:∀b,wr.heap.size≤b→g b= .none∧¬D b:=fun b hb=>⟨abr fun hn=>by have:=Oi.o.low b hn;omega,fun hn=>by have:=Oi.o.oN b hn;omega⟩;have hmr:=Oi.o.cell.2.2;have hkeep:∀b,b<w4.heap.size→b≠w1.heap.size→w5.heap[b]? =w4.heap[b]? :=fun b hb hne=>cK WR.o b hb hne;have hi5:iV D3 w5 qk i nn q.1.2:=HI4.o.move (by omega) (hkeep _ (by omega) (by omega)) (fun hk2=>hkeep _ (by have:=(hn1 hk2).2.1;omega) (by have:=(hn1 hk2).1;omega)) fun b hb hbw=>⟨hb,hkeep b hbw (by have:=(HD3.o b hb).1;omega)⟩;have hA5:=Um.o.add2 (w':=w5) (D2:=D3) (k:=qk) (x:=q.1.2) (i:=i) (n:=nn) (hnone i (by omega)) (fun hk2=>hnone nn (hn1 hk2).1) (fun hk2=>(hn1 hk2).2.2) (by omega) (fun hk2=>by have:=(hn1 hk2).2.1;omega) Uu.o vI.o (by omega) (fun b hb _ hne=>hkeep b hb hne) hi5 (fun b hb=>by
       obtain⟨e1,e2,e3,e4⟩:=HD3.o b hb;exact⟨(hnone b e1).1,by omega,e3,e4⟩)
      rw[iQ.o]at hA5;refine⟨k+1,q.2,qk,acc++[q.1],_,_,_,_,by go_num,by omega,rfl,by omega,by omega,?_,fun y hy=> ?_,by rw[List.length_append,HAC.o];rfl,?_,hA5,fun b hb=> ?_,?_⟩
      ·rw[←zR.o,show cnt-k=(cnt-(k+1))+1 by omega,qQ HQ.o,if_neg (by rw[←HQK.o];have:=Gb.o;omega),←HQK.o]
      ·rcases aas.1 hy with h9|h9
       ·have:=V_.o y h9;have:=Gb.o;omega
       ·simp only[List.mem_singleton]at h9;rw[h9,←HQK.o];exact Int.le_refl _
      ·exact HR4.o.kept (by omega) (hkeep x (by have:=HR4.o.lt;omega) (by omega)) fun b hb hbw=>hkeep b hbw (by have:=HDR.o b hb;omega)
      ·have hw1r:w1.heap.size≤wr.heap.size:=by omega
       rcases hb with hb|hb
       ·by_cases e1:b=i
        ·omega
        ·by_cases e2:b=nn∧q.1.2.kind=2
         ·have:=(hn1 e2.2).1;omega
         ·rw[if_neg e1,if_neg e2]at hb;exact Bl.o b (.inl hb)
       ·rcases hb with hb|hb
        ·exact Bl.o b (.inr hb)
        ·have:=(HD3.o b hb).1;omega
      ·exact dh.o.trans ((Keeps.turned WR.o).bQ (by have:=dh.o.size;omega) fun z hz (e:z=w1.heap.size)=>by have:=HB1.o.size;omega)
     case measure=>simp[intOf];omega
  ·obtain rfl:k=cnt:=by omega
   have HE:=ab9 (Jc HRR.o);by_cases hz:qF sr=0
   ·have hpa:parseM bs=some acc:=by
     rw[HPA.o,←zR.o,Nat.sub_self,qP];dsimp only;rw[if_pos hz]
    have qD:=ab9 (OA wr Oi.o (SN hpa).2);have HPB:=ab9 hpa;rw[hz]at HE;clear hz hpa;go_wp2_with fail;refine HE.o.mono ?_;rintro e _ ⟨rfl,rfl⟩;go_wp2_with fail;refine qD.o.mono ?_;rintro e w4 ⟨hb4,r,rfl,hiff⟩;have dh:=ab9 hb4;cases r with
    |true=>
     have Jt:=ab9 (hiff.1 rfl);clear hiff hb4;go_wp2_with fail
     go_ret2
     exact .inl ⟨acc,_,HPB.o,Jt.o,rfl,g,D,w1.heap.size,ib,nb,Oi.o.below dh.o ace,fun b hb=>by have:=Bl.o b (.inl hb);have:=HB1.o.size;omega,fun b hb=>by have:=Bl.o b (.inr hb);have:=HB1.o.size;omega,HB.o.trans (dh.o.mono HB.o.size)⟩
    |false=>
     have Jt:acd (∀T,parseM bs=some T→¬ny T):=fun T hT hR=>by
      rw[HPB.o]at hT;cases hT;have:=hiff.2 hR;cases this
     clear hiff hb4;go_wp2_with fail
     go_ret2
     exact jT.no Jt.o (HB.o.trans (dh.o.mono HB.o.size))
   ·have d1:(qF sr !=0)=true:=by simpa using hz
    have HF:acd (∀T,parseM bs=some T→¬ny T):=fun T hT=>by
     rw[HPA.o,←zR.o,Nat.sub_self,qP]at hT;dsimp only at hT;rw[if_neg hz]at hT;cases hT
    clear hz;go_wp2_with fail;refine HE.o.mono ?_;rintro e _ ⟨rfl,rfl⟩;go_wp2_with fail
    go_ret2
    exact jT.no HF.o HB.o
theorem jT.yes{T:aI}{w w':World}{e:Ending}(h:jT (f_ T) w e w')(hT:fH T):∃p,e= .returned (.tuple #[ptr p,.int .i64 0])∧qU w p T w':=by
 rcases h with⟨U,p,h1,h2,h3,h4⟩|⟨h1,_⟩
 ·rw[EH (fH.ptree hT.1)]at h1;cases h1;exact⟨p,h3,h4⟩
 ·exact absurd (Ot hT) (h1 T (EH (fH.ptree hT.1)))
theorem qU.froz{W w w':World}{o:Mark}{p:Nat}{T:aI}(h:qU w p T w')(hM:Marks W o w):eX o 0 w' p T:=by
 obtain⟨g,D,mb,ib,nb,hA,hg,hD,hb⟩:=h;have h0:∀b,w.heap.size≤b→o b=0:=fun b hb'=>Vh fun h9=>by have:=(hM.new b h9).2;omega
 exact⟨g,D,mb,ib,nb,hA,fun b hb'=>h0 b (hg b hb'),fun b hb'=>h0 b (hD b hb')⟩
theorem qU.below{w w':World}{p:Nat}{T:aI}(h:qU w p T w'):Below w.heap.size w w':=by
 obtain⟨g,D,mb,ib,nb,hA,hg,hD,hb⟩:=h;exact hb
theorem Marks.step1{W w w':World}{o o':Mark}{m:Nat}(hM:Marks W o w)(hm:0<m)(hs:Step o (fun k=>k=m) w o' w'):Marks W o' w':=hM.step (I:=fun k=>k=m) (fun e=>by have e':0=m:=e;omega) hs
theorem ah.free1{w w':World}{o o':Mark}{m n:Nat}{a:Option Addr}{vs:List Value}(h:ah (Free o w) w a n vs)(hm:0<m)(hs:Step o (fun k=>k=m) w o' w'):ah (Free o' w') w' a n vs:=h.free (I:=fun k=>k=m) (fun e=>by have e':0=m:=e;omega) hs
theorem eX.step1{w w':World}{o o':Mark}{m j p:Nat}{T:aI}(h:eX o j w p T)(hm:0<m)(hj:j≠m)(hs:Step o (fun k=>k=m) w o' w'):eX o' j w' p T:=h.step (I:=fun k=>k=m) (fun e=>by have e':0=m:=e;omega) (fun e=>hj e) hs
section
variable{W w:World}{o:Mark}{p:Nat}{T:aI}
theorem qU.mark{w':World}(h:qU w p T w')(hM:Marks W o w)(j:Nat):∃o',Step o (fun k=>k=j) w o' w'∧eX o' j w' p T:=by
 obtain⟨g,D,mb,ib,nb,hA,hg,hD,hb⟩:=h;obtain⟨o',hs,h1,h2⟩:=dI hM j (fun b=>g b≠ .none) (fun b hb'=>⟨hg b hb',hA.low b hb'⟩) hb;refine⟨o',hs,g,D,mb,ib,nb,hA,fun b hb'=>h1 b hb',fun b hb'=> ?_⟩;rw[h2 b (by rw[hA.data b hb'];simp)];exact Vh fun h9=>by have:=(hM.new b h9).2;have:=hD b hb';omega
end
theorem qh{S S':Nat→Prop}(a a':Option Addr)(n n' c c':Nat)(bs:List UInt8)(w:World)(h:ah S w a n (bs.map bv))(h':ah S' w a' n' (bs.map bv)):
  Calls Tryz.prog 150 #[.slice a n c,.slice a' n' c'] w fun e w'=>e= .returned (.bool true)∧w=w':=by
 have hc1:=pO (c:=c) h;have hc2:=pO (c:=c') h';clear h h';go_enter Tryz.func150,Tryz.ntmps150;go_wp2_with fail;go_ret;exact⟨rfl,rfl⟩
structure FQ(o:Mark)(j:Nat)(w:World)(x:Nat)(s:Rd):Prop where
 at_:∃D,bg D w x s∧o x=j∧∀b,D b→o b=0
theorem FQ.step{o o':Mark}{I:Nat→Prop}{j:Nat}{w w':World}{x:Nat}{s:Rd}(h:FQ o j w x s)(hi:¬I 0)(hij:¬I j)(hs:Step o I w o' w'):FQ o' j w' x s:=by
 obtain⟨D,h1,h2,h3⟩:=h.at_;exact⟨D,h1.kept hs.keep.size (hs.block h1.lt (by rw[h2];exact hij)) (fun b hb hbw=>hs.block hbw (by rw[h3 b hb];exact hi)),(hs.old x h1.lt).trans h2,fun b hb=>(hs.old b (h1.low b hb)).trans (h3 b hb)⟩
theorem FQ.grow{W:World}{o:Mark}{j:Nat}{w w':World}{x:Nat}{s:Rd}(h:FQ o j w x s)(hM:Marks W o w)(hb:Below w.heap.size w w'):FQ o j w' x s:=
 h.step (I:=fun _=>False) (fun e=>e) (fun e=>e) (Step.grow hM hb)
theorem Dh{W w w':World}{o:Mark}{j x:Nat}(hM:Marks W o w)(hx:o x=j)(hK:Keeps (fun b=>b=x) w w'):Step o (fun k=>k=j) w o w':=
 ⟨fun _ _=>rfl,fun b hb hn=>by have:=(hM.new b hn).2;omega,hK.mono fun z _ (hz:z=x)=>by rw[hz];exact hx⟩
section
variable{W w:World}{o:Mark}{i j s p x:Nat}{S:rH}{T:aI}{sr:Rd}
theorem zW(h:FQ o j w x sr)(hM:Marks W o w){n:Int}{s':Rd}(he:bB sr 8=(n,s')):Calls Tryz.prog 148 #[ptr x] w fun e w'=>e= .returned (.int .u64 n)∧FQ o j w' x s'∧Step o (fun k=>k=j) w o w':=by
 obtain⟨D,h1,h2,h3⟩:=h.at_;refine(Ja h1).mono ?_;rintro e w' ⟨he',hR,hK⟩;rw[he]at he' hR;exact⟨he',⟨D,hR,h2,h3⟩,Dh hM h2 hK⟩
theorem ro_byte(h:FQ o j w x sr)(hM:Marks W o w){n:Int}{s':Rd}(he:bB sr 1=(n,s')):Calls Tryz.prog 212 #[ptr x] w fun e w'=>e= .returned (.int .i64 n)∧FQ o j w' x s'∧Step o (fun k=>k=j) w o w':=by
 obtain⟨D,h1,h2,h3⟩:=h.at_;refine(C8 h1).mono ?_;rintro e w' ⟨he',hR,hK⟩;rw[he]at he' hR;exact⟨he',⟨D,hR,h2,h3⟩,Dh hM h2 hK⟩
def RoRow(o:Mark)(j:Nat)(w:World)(x:Nat)(bs:List UInt8)(s':Rd)(e:Ending)(w':World):Prop:=
 ∃a c,e= .returned (.slice a bs.length c)∧oI bs.length c∧ah (fun b=>o b=0∧b<w'.heap.size) w' a bs.length (bs.map bv)∧FQ o j w' x s'∧Step o (fun k=>k=j) w o w'
theorem LK(h:FQ o j w x sr)(hM:Marks W o w){bs:List UInt8}{s':Rd}(he:aP sr=(bs,s')):Calls Tryz.prog 213 #[ptr x] w (RoRow o j w x bs s'):=by
 obtain⟨D,h1,h2,h3⟩:=h.at_;refine(vw h1).mono ?_;rintro e w' ⟨a,c,he',hc,hr,hR,hK⟩;rw[he]at he' hc hr hR;exact⟨a,c,he',hc,hr.mono fun b hb=>⟨Vh fun h9=>by have:=(hM.new b h9).2;omega,hb.2⟩,⟨D,hR,h2,h3⟩,Dh hM h2 hK⟩
theorem OD(h:FQ o j w x sr)(hM:Marks W o w)(n:Int)(hn0:0≤n)(hn1:n≤9223372036854775807){bs:List UInt8}{s':Rd}(he:jJ sr n=(bs,s')):Calls Tryz.prog 149 #[ptr x,.int .i64 n] w (RoRow o j w x bs s'):=by
 obtain⟨D,h1,h2,h3⟩:=h.at_;refine(I9 h1 n hn0 hn1).mono ?_;rintro e w' ⟨a,c,he',hc,hr,hR,hK⟩;rw[he]at he' hc hr hR;exact⟨a,c,he',hc,hr.mono fun b hb=>⟨Vh fun h9=>by have:=(hM.new b h9).2;omega,hb.2⟩,⟨D,hR,h2,h3⟩,Dh hM h2 hK⟩
theorem Ju(h:FQ o j w x sr):Calls Tryz.prog 240 #[ptr x] w fun e w'=>e= .returned (.int .i64 (lJ sr:Int))∧w=w':=by
 obtain⟨D,h1,h2,h3⟩:=h.at_;exact Jb h1
theorem ro_end(h:FQ o j w x sr):Calls Tryz.prog 214 #[ptr x] w fun e w'=>e= .returned (.int .i64 (qF sr))∧w=w':=by
 obtain⟨D,h1,h2,h3⟩:=h.at_;exact Jc h1
theorem WS{Q:Nat→Prop}(hM:Marks W o w)(j:Nat)(a:Option Addr)(n c:Nat)(bs:List UInt8)(hm:n≤100000000)(hr:ah Q w a n (bs.map bv)):Calls Tryz.prog 146 #[.slice a n c] w fun e w'=>∃x o',e= .returned (ptr x)∧FQ o' j w' x (bs,0)∧Step o (fun k=>k=j) w o' w':=by
 refine(nI a n c bs w hm hr).mono ?_;rintro e w' ⟨x,rfl,hx,hR,hb⟩;obtain⟨o',hs,h1,h2⟩:=dI hM j (fun b=>b=x) (w':=w') (fun b hb'=>by subst hb';exact⟨hx,hR.lt⟩) hb;refine⟨x,o',rfl,⟨_,hR,h1 x rfl,fun b hb'=> ?_⟩,hs⟩;rw[h2 b (fun e=>by subst e;omega)];exact Vh fun h9=>by have:=(hM.new b h9).2;omega
end
end Go.Proofs.YtmflaonodghbcaaGreatDoor
