/- tree -/
import Derived.Test.YtjnhnlabpccgjaaGreatDoorM43
import Derived.Test.YtjnhnlabpccgjaaGreatDoorM13
import Derived.Test.YtjnhnlabpccgjaaGreatDoorM02
import Derived.Deep.QuietTactic
import Derived.BigQuiet
import Derived.Test.YtjnhnlabpccgjaaGreatDoorM44
import Derived.Test.YtjnhnlabpccgjaaGreatDoorM18
import Derived.Test.YtjnhnlabpccgjaaGreatDoorM38
import Derived.Test.YtjnhnlabpccgjaaGreatDoorM42
set_option maxRecDepth 100000
set_option maxHeartbeats 64000000
set_option linter.all false
namespace Go.Proofs.YtjnhnlabpccgjaaGreatDoor
open Go.ChangeShapes Go.WideShapes Go.ChangeAt Go.RowKit
def ET(C:sO):List (Int×Value):=C.map fun p=>(p.1,(.int .i64 (p.2:Int):Value))
theorem Wp(C:sO)(j:Int):aj j (ET C)=(aj j C).map fun n:Nat=>(.int .i64 (n:Int):Value):=CP (fun n:Nat=>(.int .i64 (n:Int):Value)) j C
theorem EC(C:sO)(j:Int):(aj j (ET C)).getD (.int .i64 0)= .int .i64 (jW C j:Int):=by
 rw[Wp];unfold jW;cases aj j C<;>rfl
theorem Za(C:sO)(k:Int):b_ iA k (.int .i64 ((jW C k:Int)+1):Value) (ET C)=ET (oz C k):=by
 unfold ET oz;rw[S9 iA (fun n:Nat=>(.int .i64 (n:Int):Value)) k (jW C k+1) C];rfl
theorem Zb(C:sO):(ET C).length=C.length:=List.length_map _
def jJ(T:aA)(C:sO)(n:Nat)(id:Int)(cb:Nat)(w:World)(e:Ending)(w':World):Prop:=
 Keeps (fun b=>b=cb) w w'∧∃r:Bool,e= .returned (.bool r)∧(r=true↔iV T C n id)∧(r=true→∃C',aI iA C'∧(∀j,jW C' j=jW C j+(mI T n id).count j)∧Fw T C'≤Fw T C+(aU T id).length∧C'.length≤sm C'∧MapAt bK w' cb (ET C'))
theorem jJ.ED{T:aA}{C:sO}{n:Nat}{id:Int}{cb:Nat}{w w':World}(hk:Keeps (fun b=>b=cb) w w')(h:¬iV T C n id):jJ T C n id cb w (.returned (.bool false)) w':=
 ⟨hk,false,rfl,⟨fun h'=>(by cases h'),fun h'=>absurd h' h⟩,fun h'=>(by cases h')⟩
def LkRel(T:aA)(C:sO)(n:Nat)(id:Int)(x:bJ)(w:World)(nbk r cb:Nat)(wr:World):Prop:=
 ∃(left:Nm→Bool) (cnt:Nat) (C':sO),fJ iq wr nbk r (fA x) left cnt∧mF T (n-1) C (doneN left x.names) C'∧(n=0→doneN left x.names=[])∧MapAt bK wr cb (ET C')∧Fw T C'≤Fw T C+(doneN left x.names).length∧C'.length≤sm C'∧Keeps (fun b=>b=cb) w wr
theorem Zc{C:sO}(h:aI iA C)(hl:C.length≤sm C)(k:Int):(oz C k).length≤sm (oz C k):=by
 rw[Ny h];unfold oz b_;rw[uY];have:(bP k C).length≤C.length:=aa4 _ _;omega
theorem Wq(left:Nm→Bool)(l:List (Nm×Int)):(doneN left l).length≤l.length:=aa4 _ _
section
variable{g:Nat→Own}{D:Nat→Prop}{p mb:Nat}{ib nb:Int→Nat}{T:aA}
theorem EF(n:Nat)(mQ:n≤8)(id:Int)(x:bJ)(C:sO)(cb:Nat)(w:World)(h:aP g D w p mb ib nb T)(hcb:g cb= .none∧¬D cb)(hcw:cb<w.heap.size)(hP:uL T)(hx:aj id T=some x)(hk:x.kind=2)
  (hM:MapAt bK w cb (ET C))(hS:aI iA C)(hCl:C.length≤sm C)(Sj:Fw T C+x.names.length≤1000000000000)
  (hrec:∀m,n=m+1→∀e∈x.names,bI T e.2=2→∀w1 C1,Keeps (fun b=>b=cb) w w1→MapAt bK w1 cb (ET C1)→aI iA C1→C1.length≤sm C1→Fw T C1+(aU T e.2).length≤1000000000000→Calls Tryz.prog 181 #[ptr p,.int .i64 e.2,.int .i64 (8-(m:Int)),.map (some cb)] w1 (jJ T C1 m e.2 cb w1)):
  Calls Tryz.prog 181 #[ptr p,.int .i64 id,.int .i64 (8-(n:Int)),.map (some cb)] w (jJ T C n id cb w):=by
 obtain⟨hc0,hpw,hmw⟩:=h.cell;have hPI:=hP.get hx;have xD:=hPI.ok.id;have hok:bK.ok id:=kD xD.1 (by unfold AB at xD;dsimp only at xD;omega);obtain⟨c0,c1,c2,c3,c4,c5,c7,hiw⟩:=(h.item id x hx).cell;have hget:aj id (T.map fun q=>(q.1,ptr (ib q.1)))=some (ptr (ib id)):=by rw[eX,hx];rfl
 have HG:=acr hget;have n_:=acr h.map;have HH:=acr h;have HREC:=acr hrec;have HPI:=acr hPI;have HX:=acr hx;have HP:=acr hP;have SE:=acr hM;have HSC:=acr hS;have ZW:=acr hCl;have HPSI:=acr Sj;have HCB:=acr hcb;have hnn:aU T id=x.names:=dX hx;have pq:=acr hnn;have e2:fu x (nb id)= .map (some (nb id)):=if_pos hk;rw[e2]at c7;have HN:=acr ((h.item id x hx).names hk);have hbw:=HN.o.lt;have htn:=h.nG id x hx hk;have htm:=h.jQ;have htp:=h.qO;have hne1:cb≠nb id:=fun e=>by rw[←e,hcb.1]at htn;cases htn
 have hne2:cb≠mb:=fun e=>by rw[←e,hcb.1]at htm;cases htm
 have hne3:cb≠p:=fun e=>by rw[←e,hcb.1]at htp;cases htp
 have N9:=acr hk;have HAP:=acr (hPI.sorted.apart uO);clear hget hrec h hk e2 hPI xD hP hM hS hCl Sj hcb hnn htn htm htp hx;go_enter Tryz.func181,Tryz.ntmps181;go_wp2_with (first|(at_lookup;refine dJ bK rfl _ _ 104 102 rfl Tryz.underlying104 (Tryz.dP _) rfl n_.o id rfl hok ?_;rw[HG.o])|(at_range;refine oZ iq rfl _ 136 3 rfl Tryz.underlying136 rfl HN.o ?_;intro w0 hR0 hB0 hs0))
 go_frame
 go_loopw [10,11,12] (fun _ _ _ wr=>LkRel T C n id x w (nb id) w.heap.size cb wr) (fun _ _ _ wr=>wr.rangeLeft (nb id) w.heap.size)
 case atStart=>
  have hnil:doneN (fun k=>(aj k (fA x)).isSome) x.names=[]:=MF fun e he=>by
   rw[lJ,aS uO HPI.o.sorted he];rfl
  refine⟨_,_,C,hR0,by rw[hnil];exact mF.nil HSC.o,fun _=>hnil,SE.o.kept (hB0.block _ hcw),by rw[hnil];exact Nat.le_refl _,ZW.o,(Keeps.below hB0).mono fun z hz hz'=>by omega⟩
 case round=>
  obtain⟨left,cnt,C1,hR,hD,hD0,hM1,hps,hl1,hK⟩:=hrel;have HR:=acr hR;have HD:=acr hD;have HD0:=acr hD0;have nM:=acr hM1;have HPS:=acr hps;have yD:=acr hl1;have HK:=acr hK;clear hR hD hD0 hM1 hps hl1 hK;go_wp2_with (first|(at_next;refine qU iq rfl _ rfl rfl HR.o ?_ ?_))
  ·intro hdone;have Ck:=acr hdone;clear hdone;go_wp2_with fail;go_ret;have hall:doneN left x.names=x.names:=QG Ck.o;have hd:=HD.o;rw[hall]at hd;refine⟨HK.o,true,rfl,?_⟩;cases n with
   |zero=>
    have hnil:=HD0.o rfl;rw[hall]at hnil;have hnm:aU T id=[]:=pq.o.trans hnil;refine⟨⟨fun _=>⟨hnm,fun k hk=>(by unfold mI at hk;cases hk)⟩,fun _=>rfl⟩,fun _=>⟨C1,hd.sorted,fun j=> ?_,?_,yD.o,nM.o⟩⟩
    ·rw[hd.cnt j,hnil];rfl
    ·have:=HPS.o;rw[hall,hnil]at this;exact aax this (Nat.le_add_right _ _)
   |succ n=>
    rw[←pq.o]at hd;have hfin:=hd.all;refine⟨⟨fun _=>hfin.1,fun _=>rfl⟩,fun _=>⟨C1,hd.sorted,hfin.2,?_,yD.o,nM.o⟩⟩;have:=HPS.o;rw[hall,←pq.o]at this;exact this
  ·intro k v w3 cnt1 TR hleft hg2 nu hlt hK1 hs1 hen;rw[lJ]at hg2;cases hk2:aj k x.names with
   |none=>rw[hk2]at hg2;cases hg2
   |some j=>
    rw[hk2]at hg2;cases hg2;have hmem:=bM hk2;have hjb:=HPI.o.ids _ hmem;have uP:bK.ok j:=kD hjb.1 (by have:=hjb.2;dsimp only at this;omega);have hK3:Keeps (fun b=>b=cb) w w3:=HK.o.trans hK1 fun z hz (e:z=w.heap.size)=>by omega
    have hA3:=HH.o.keeps hK3 fun z hz (e:z=cb)=>by
     subst e;rcases hz with hz|hz
     ·exact hz HCB.o.1
     ·exact HCB.o.2 hz
    obtain⟨hc3,hpw3,hmw3⟩:=hA3.cell;have GN:=acr hA3.map;have Ca:acs (MapAt bK w3 cb (ET C1)):=nM.o.kept (hK1.block _ (by have:=nM.o.lt;omega) (fun(e:cb=w.heap.size)=>by omega));have hnmem:(k,j)∈aU T id:=by rw[pq.o];exact hmem
    have zN:=acr hnmem;have wB:=acr hlt;have wD:=acr hleft;have HR1:=acr nu;have Vx:=acr hK3;have Zd:=acr hmem;have hrw:=nu.lt;have e3:iq.val k= .string (strOf k):=rfl;rw[e3]at hen⊢;clear e3 hlt hleft nu hK3 hmem hnmem hk2 hjb;cases hy:aj j T with
    |none=>
     have Tk:acs (aj j (T.map fun q=>(q.1,ptr (ib q.1)))=none):=by show _=_;rw[eX,hy];rfl
     have HF:acs (¬iV T C n id):=by
      cases n with
      |zero=>exact AO zN.o
      |succ m=>exact KT zN.o (fun hh=>by have h9:=hh.1;dsimp only at h9;rw[hy]at h9;cases h9)
     clear hy;go_wp2_with (at_lookup;refine bF bK rfl _ _ 104 102 rfl Tryz.underlying104 (Tryz.dP _) rfl GN.o j rfl uP ?_;rw[Tk.o]);go_ret;exact jJ.ED Vx.o HF.o
    |some y=>
     have Tk:acs (aj j (T.map fun q=>(q.1,ptr (ib q.1)))=some (ptr (ib j))):=by show _=_;rw[eX,hy];rfl
     obtain⟨-,y1,-,-,-,-,-,hyw⟩:=(hA3.item j y hy).cell;have HY:=acr hy;clear hy hA3;by_cases hj0:j=0
     ·have HF:acs (¬iV T C n id):=by
       cases n with
       |zero=>exact AO zN.o
       |succ m=>exact KT zN.o (fun hh=>hh.2 hj0)
      have d1:(j==0)=true:=by simpa using hj0
      clear hj0;go_wp2_with (at_lookup;refine bF bK rfl _ _ 104 102 rfl Tryz.underlying104 (Tryz.dP _) rfl GN.o j rfl uP ?_;rw[Tk.o]);go_ret;exact jJ.ED Vx.o HF.o
     ·have d1:(j==0)=false:=by simpa using hj0
      have AU:=acr hj0;clear hj0;by_cases hn0:n=0
      ·have HF:acs (¬iV T C n id):=by
        subst hn0;exact AO zN.o
       have d2:((8-(n:Int))==8)=true:=by rw[hn0];rfl
       clear hn0;go_wp2_with (at_lookup;refine bF bK rfl _ _ 104 102 rfl Tryz.underlying104 (Tryz.dP _) rfl GN.o j rfl uP ?_;rw[Tk.o]);go_ret;exact jJ.ED Vx.o HF.o
      ·have d2:((8-(n:Int))==8)=false:=aa1.2 (by omega);obtain⟨m,hm⟩:∃m,n=m+1:=⟨n-1,by omega⟩;have jY:=acr hm;have hsum:IntKind.i64.wrap (8-(n:Int)+1)=8-(m:Int):=by rw[aag _ (by omega)];omega
       have hlD:acs (mF T m C (doneN left x.names) C1):=by
        have:=HD.o;rw[show n-1=m by omega]at this;exact this
       clear hn0 hm;have hd1:=xR HAP.o Zd.o wD.o;have hdl:=hd1.length_eq;rw[List.length_append,List.length_singleton]at hdl;have hdle:=Wq (fun z=>left z&& !decide (z=k)) x.names;have HPERM:=acr hd1;have hps:=HPS.o;have Sj:=HPSI.o;obtain⟨cN,Lg⟩:∃cN,cN=jW C1 j:=⟨_,rfl⟩;have hcs:=YZ HD.o.sorted j;rw[←Lg]at hcs;have hpp:sm C1≤Fw T C1:=by unfold Fw;omega
       have HGC:acs ((aj j (ET C1)).getD (.int .i64 0)= .int .i64 (cN:Int)):=by show _=_;rw[EC,←Lg]
       have og:acs (∀w',MapAt bK w' cb (b_ bK.lt j (.int .i64 ((cN:Int)+1)) (ET C1))→MapAt bK w' cb (ET (oz C1 j))):=fun w' hm=>by
        have e9:b_ bK.lt j (.int .i64 ((cN:Int)+1)) (ET C1)=ET (oz C1 j):=by rw[Lg];exact Za C1 j
        rw[e9]at hm;exact hm
       have HGC4:acs ((aj j (ET (oz C1 j))).getD (.int .i64 0)= .int .i64 ((cN:Int)+1)):=by show _=_;rw[EC,lF,if_pos rfl,←Lg];rfl
       have HLEN:acs ((ET C1).length<maxLen):=by
        show _<_;rw[Zb];have:=yD.o;unfold maxLen;omega
       have HINC:=acr (Zc HD.o.sorted yD.o j);have e1:IntKind.i64.wrap ((cN:Int)+1)=(cN:Int)+1:=aag _ (by omega);have HCN:=acr Lg;have HKN:acs (∀w4,w3.mapTurned w4 cb→w4.cell? ⟨ib j,1,none⟩=some (.int .i64 y.kind)):=fun w4 hT=>by
        have hgi:=HH.o.qg j y HY.o;have hne:ib j≠cb:=fun e=>by rw[e,HCB.o.1]at hgi;cases hgi
        exact(aau (w:=w3) (w':=w4) (a:=⟨ib j,1,none⟩) (dL hT _ hyw hne)).trans y1
       have qQ:acs (∀w4,w3.mapTurned w4 cb→Keeps (fun b=>b=cb) w w4∧fJ iq w4 (nb id) w.heap.size (fA x) (fun z=>left z&& !decide (z=k)) cnt1):=fun w4 hT=>
        ⟨Vx.o.trans (Keeps.turned hT) fun z _ hz=>hz,HR1.o.kept (dL hT _ hrw.1 (aaT hne1)) (dL hT _ hrw.2.1 (by omega))⟩
       clear Lg hcs hpp hd1;by_cases hkd:y.kind=2
       ·have g1:(y.kind==2)=true:=by simpa using hkd
        have hkj:bI T j=2:=by rw[dh HY.o];exact hkd
        by_cases hc0:cN=0
        ·have dgt:decide ((1:Int)<(cN:Int)+1)=false:=by simp;omega
         have hzc:jW C1 j=0:=by rw[←HCN.o];exact hc0
         have hpd:=Y1 (T:=T) HD.o.sorted (bM HY.o) hkd hzc;have hnl:(aU T j).length≤65535:=by rw[dX HY.o];exact(HP.o.get HY.o).few
         have HQ:acs (∀w4,w3.mapTurned w4 cb→MapAt bK w4 cb (ET (oz C1 j))→Calls Tryz.prog 181 #[ptr p,.int .i64 j,.int .i64 (8-(m:Int)),.map (some cb)] w4 (jJ T (oz C1 j) m j cb w4)):=fun w4 hT hM=>HREC.o m jY.o (k,j) Zd.o hkj w4 _ (qQ.o w4 hT).1 hM (Ev HD.o.sorted j) HINC.o (by dsimp only;omega);have HZC:=acr (And.intro hzc hkj);have HPD:=acr (And.intro hpd hnl);clear hkd hkj hc0 hzc hpd hnl;go_wp2_with (first|(at_lookup;refine bF bK rfl _ _ 104 102 rfl Tryz.underlying104 (Tryz.dP _) rfl GN.o j rfl uP ?_;rw[Tk.o])|(at_lookup;refine dJ bK rfl _ _ 221 3 rfl Tryz.underlying221 (Tryz.kN _) rfl Ca.o j rfl uP ?_;rw[HGC.o])|(at_mapUpdate;refine mK bK rfl _ _ _ 221 3 rfl Tryz.underlying221 rfl Ca.o HLEN.o j (.int .i64 ((cN:Int)+1)) rfl rfl uP ?_;intro w4 uX kK;have nI:=acr (og.o _ uX);have IJ:=acr kK;have hk4:=HKN.o w4 kK;clear uX kK)|(at_lookup;refine dJ bK rfl _ _ 221 3 rfl Tryz.underlying221 (Tryz.kN _) rfl nI.o j rfl uP ?_;rw[HGC4.o]));refine(HQ.o _ IJ.o nI.o).mono ?_;rintro e w5 ⟨yC,r,rfl,hiff,hok5⟩;have Ll:=acr (qQ.o _ IJ.o);have Dl:=acr yC;cases r with
         |false=>
          have HF:acs (¬iV T C n id):=by
           have h9:=Wh (C:=C) (e:=(k,j)) (by rw[pq.o];exact HAP.o) zN.o wD.o (by rw[pq.o];exact hlD.o) HZC.o.2 (fun hh=>by have:=hiff.2 hh;cases this);rw[←jY.o]at h9;exact h9
          clear hiff hok5 yC;go_wp2_with fail;go_ret;exact jJ.ED (Ll.o.1.trans Dl.o fun z _ hz=>hz) HF.o
         |true=>
          obtain⟨C2,hs2,hc2,hp2,hl2,hm2⟩:=hok5 rfl;have HD2:acs (mF T m C (doneN (fun z=>left z&& !decide (z=k)) x.names) C2):=(hlD.o.dir (e:=(k,j)) (by dsimp only;rw[HY.o];rfl) AU.o HZC.o.2 HZC.o.1 hs2 hc2 (hiff.1 rfl)).perm HPERM.o;have HP2:acs (Fw T C2≤Fw T C+(doneN (fun z=>left z&& !decide (z=k)) x.names).length):=by
           have h8:=HPD.o;show _≤_;omega
          have HL2:=acr hl2;have zO:=acr hm2;clear hs2 hc2 hp2 hl2 hm2 hiff hok5 yC;go_wp2_with fail;go_roundw
          case rel=>exact⟨_,cnt1,C2,Ll.o.2.kept (Dl.o.block _ Ll.o.2.lt.1 (aaT hne1)) (Dl.o.block _ Ll.o.2.lt.2.1 (by omega)),by rw[show n-1=m by have:=jY.o;omega];exact HD2.o,fun h0=>by have:=jY.o;omega,zO.o,HP2.o,HL2.o,Ll.o.1.trans Dl.o fun z _ hz=>hz⟩
          case measure=>
           have h4:=Ll.o.2.kept (w':=w5) (Dl.o.block _ Ll.o.2.lt.1 (aaT hne1)) (Dl.o.block _ Ll.o.2.lt.2.1 (by omega));rw[h4.measure,HR.o.measure];exact wB.o
        ·have dgt:decide ((1:Int)<(cN:Int)+1)=true:=by simp;omega
         have HF:acs (¬iV T C n id):=by
          have h9:=Wd (C:=C) (n:=m) (e:=(k,j)) (by rw[pq.o];exact HAP.o) zN.o wD.o (by rw[pq.o];exact hlD.o) hkj (by dsimp only;rw[lF,if_pos rfl,←HCN.o];omega);rw[←jY.o]at h9;exact h9
         clear hkd hkj hc0;go_wp2_with (first|(at_lookup;refine bF bK rfl _ _ 104 102 rfl Tryz.underlying104 (Tryz.dP _) rfl GN.o j rfl uP ?_;rw[Tk.o])|(at_lookup;refine dJ bK rfl _ _ 221 3 rfl Tryz.underlying221 (Tryz.kN _) rfl Ca.o j rfl uP ?_;rw[HGC.o])|(at_mapUpdate;refine mK bK rfl _ _ _ 221 3 rfl Tryz.underlying221 rfl Ca.o HLEN.o j (.int .i64 ((cN:Int)+1)) rfl rfl uP ?_;intro w4 uX kK;have nI:=acr (og.o _ uX);have IJ:=acr kK;have hk4:=HKN.o w4 kK;clear uX kK)|(at_lookup;refine dJ bK rfl _ _ 221 3 rfl Tryz.underlying221 (Tryz.kN _) rfl nI.o j rfl uP ?_;rw[HGC4.o]));go_ret;exact jJ.ED (qQ.o _ IJ.o).1 HF.o
       ·have g1:(y.kind==2)=false:=by simpa using hkd
        have HD2:acs (mF T m C (doneN (fun z=>left z&& !decide (z=k)) x.names) (oz C1 j)):=(hlD.o.file (e:=(k,j)) (by dsimp only;rw[HY.o];rfl) AU.o (by dsimp only;rw[dh HY.o];exact hkd)).perm HPERM.o;have HP2:acs (Fw T (oz C1 j)≤Fw T C+(doneN (fun z=>left z&& !decide (z=k)) x.names).length):=by
         have h8:=Y0 (T:=T) HD.o.sorted j;show _≤_;omega
        clear hkd;go_wp2_with (first|(at_lookup;refine bF bK rfl _ _ 104 102 rfl Tryz.underlying104 (Tryz.dP _) rfl GN.o j rfl uP ?_;rw[Tk.o])|(at_lookup;refine dJ bK rfl _ _ 221 3 rfl Tryz.underlying221 (Tryz.kN _) rfl Ca.o j rfl uP ?_;rw[HGC.o])|(at_mapUpdate;refine mK bK rfl _ _ _ 221 3 rfl Tryz.underlying221 rfl Ca.o HLEN.o j (.int .i64 ((cN:Int)+1)) rfl rfl uP ?_;intro w4 uX kK;have nI:=acr (og.o _ uX);have IJ:=acr kK;have hk4:=HKN.o w4 kK;clear uX kK)|(at_lookup;refine dJ bK rfl _ _ 221 3 rfl Tryz.underlying221 (Tryz.kN _) rfl nI.o j rfl uP ?_;rw[HGC4.o]));have Ll:=acr (qQ.o _ IJ.o);go_roundw
        case rel=>exact⟨_,cnt1,_,Ll.o.2,by rw[show n-1=m by have:=jY.o;omega];exact HD2.o,fun h0=>by have:=jY.o;omega,nI.o,HP2.o,HINC.o,Ll.o.1⟩
        case measure=>
         rw[Ll.o.2.measure,HR.o.measure];exact wB.o
theorem GQ(cb:Nat)(hcb:g cb= .none∧¬D cb)(hP:uL T):∀(n:Nat) (hn:n≤8) (id:Int) (C:sO) (w:World),aP g D w p mb ib nb T→bI T id=2→MapAt bK w cb (ET C)→aI iA C→C.length≤sm C→Fw T C+(aU T id).length≤1000000000000→
  Calls Tryz.prog 181 #[ptr p,.int .i64 id,.int .i64 (8-(n:Int)),.map (some cb)] w (jJ T C n id cb w)
 |0,hn,id,C,w,h,hk,hM,hS,hl,hp=>by
  obtain⟨x,hx,hxk⟩:=gJ hk;rw[dX hx]at hp;exact EF 0 hn id x C cb w h hcb hM.lt hP hx hxk hM hS hl hp fun m e=>by omega
 |n+1,hn,id,C,w,h,hk,hM,hS,hl,hp=>by
  obtain⟨x,hx,hxk⟩:=gJ hk;rw[dX hx]at hp;refine EF (n+1) hn id x C cb w h hcb hM.lt hP hx hxk hM hS hl hp fun m hm e he hke w1 C1 hK hM1 hS1 hl1 hp1=> ?_;obtain rfl:m=n:=by omega
  exact GQ cb hcb hP m (by omega) e.2 C1 w1 (h.keeps hK fun z hz (e:z=cb)=>by
   subst e;rcases hz with hz|hz
   ·exact hz hcb.1
   ·exact hcb.2 hz) hke hM1 hS1 hl1 hp1
end
section
variable{P:Program}{K:TypeId}{κ:Type}[DecidableEq κ](F:zS P K κ)
variable{w:World}{ops:Array Oper}{rest:List Oper}{o:Oper}{a:Act}{Q:Exit→Act→World→Prop}
theorem Fx(hg:Region.wanted o (yielded ops a.tmps)=true)(m x v:Operand)(t e:TypeId)(hop:o.op=Op.insert t m x v)(ht:P.underlying t=some (.map K e))
  {b:Nat}{l:List (κ×Value)}(hm:a.eval m= .map (some b))(hM:MapAt F w b l)(hn:l.length<maxLen)(k:κ)(val:Value)(hx:a.eval x=F.val k)(hv:a.eval v=val)(hok:F.ok k)
  (h:∀w',MapAt F w' b (b_ F.lt k val l)→w.mapTurned w' b→wpList P ops Q rest (a.put o.dst undef) w'):wpList P ops Q (o::rest) a w:=by
 refine aby hg fun K' hK=> ?_;obtain⟨w',hrun,r1,r2⟩:=MapAt.rT F ht hM hn k val hok;unfold Oper.wp;simp[execOp,hop,hm,hx,hv,hrun,Result.andThen];exact hK _ _ (h w' r1 r2)
theorem MapAt.Ws{t e:TypeId}(ht:P.underlying t=some (.map K e)){z:Value}(hz:(zeroValue e).run P w= .ok z w){b:Nat}{l:List (κ×Value)}(hM:MapAt F w b l)(k:κ)(hok:F.ok k):
  (Instr.lookup t (.map (some b)) (F.val k) false).run P w= .ok ((aj k l).getD z) w:=by
 obtain⟨v,ps,hrun,hv⟩:=World.ownsMap.lookup hM F.law ht hz (zd:= .held z) (zp:=[]) rfl (F.of k hok);rw[GX]at hv;have hv':v=(aj k l).getD z:=by
  simp only[oH,Pd,abB]at hv;have:=hv.1;cases hg':aj k l with
  |none=>rw[hg']at this;simpa using this
  |some u=>rw[hg']at this;simpa using this
 rw[hv']at hrun;exact hrun
end
section
variable{g:Nat→Own}{D:Nat→Prop}{p mb:Nat}{ib nb:Int→Nat}{T:aA}
def GR(T:aA)(q:Int×bJ):Prop:=(((if q.1=0 then 1 else 0)+(mI T 8 0).count q.1:Nat):Int)=q.2.links∧¬(q.2.links=0∧q.2.closed=true)
def RtRel(T:aA)(ib:Int→Nat)(mb r:Nat)(w3 wr:World):Prop:=
 ∃(left:Int→Bool) (cnt:Nat),fJ bK wr mb r (T.map fun q=>(q.1,ptr (ib q.1))) left cnt∧(∀q∈T,left q.1=false→GR T q)∧Keeps (fun b=>b=r) w3 wr
theorem NQ(w:World)(h:aP g D w p mb ib nb T)(hP:uL T):
  Calls Tryz.prog 131 #[ptr p] w fun e w'=>Below w.heap.size w w'∧∃r:Bool,e= .returned (.bool r)∧(r=true↔lS T):=by
 obtain⟨hc0,hpw,hmw⟩:=h.cell;have hok0:bK.ok 0:=kD (by omega) (by omega);have n_:=acr h.map;have HP:=acr hP;have hlen:=hP.few;cases hx:aj (0:Int) T with
 |none=>
  have HG:acs (aj (0:Int) (T.map fun q=>(q.1,ptr (ib q.1)))=none):=by show _=_;rw[eX,hx];rfl
  have HF:acs (¬lS T):=fun hR=>by
   have:=hR.1;unfold bI at this;rw[hx]at this;cases this
  clear h hP hx hlen;go_enter Tryz.func131,Tryz.ntmps131;go_wp2_with (at_lookup;refine bF bK rfl _ _ 104 102 rfl Tryz.underlying104 (Tryz.dP _) rfl n_.o 0 rfl hok0 ?_;rw[HG.o]);go_ret;exact⟨Below.refl _ _,false,rfl,⟨fun h=>(by cases h),fun h=>absurd h HF.o⟩⟩
 |some x=>
  have HG:acs (aj (0:Int) (T.map fun q=>(q.1,ptr (ib q.1)))=some (ptr (ib 0))):=by show _=_;rw[eX,hx];rfl
  obtain⟨-,c1,-,-,-,-,-,hiw⟩:=(h.item 0 x hx).cell;by_cases hk:x.kind=2
  ·have g1:(x.kind==2)=true:=by simpa using hk
   have g1':(x.kind !=2)=false:=by simpa using hk
   have hk0:bI T 0=2:=by rw[dh hx];exact hk
   by_cases h64:T.length≤64
   ·have OL:acs ((T.map fun q=>(q.1,ptr (ib q.1))).length=T.length):=List.length_map _;obtain⟨n,hn⟩:∃n,n=T.length:=⟨_,rfl⟩;have d1:decide ((64:Int)<(n:Int))=false:=by simp;omega
    have HN:=acr hn;have HH:=acr h;have HK0:=acr hk0;have hmm:= @run_makeMap Tryz.prog;have HM0:=acr (MapAt.made (F:=bK) w);clear h hP hx hk hk0 hn;go_enter Tryz.func131,Tryz.ntmps131;go_wp2_with (first|(at_lookup;refine bF bK rfl _ _ 104 102 rfl Tryz.underlying104 (Tryz.dP _) rfl n_.o 0 rfl hok0 ?_;rw[HG.o])|(at_len;refine lU bK rfl _ 104 102 rfl Tryz.underlying104 rfl n_.o ?_;rw[OL.o,←HN.o])|(refine Fx bK rfl _ _ _ 221 3 rfl Tryz.underlying221 rfl HM0.o (by unfold maxLen;simp) 0 (.int .i64 1) rfl rfl hok0 ?_;intro w1 hM1 hT1;have nM:=acr hM1;have HT1:=acr hT1;clear hM1 hT1));have hb1:Below w.heap.size w w1:=(wall w (.map #[] 0)).trans ((Keeps.turned HT1.o).gP (by simp) fun z hz (e:z=w.heap.size)=>by omega);have HB1:=acr hb1;have hm1:MapAt bK w1 w.heap.size (ET [(0,1)]):=nM.o;have hA1:=HH.o.below hb1 acu;have hgc:g w.heap.size= .none:=abw fun hn=>by have:=HH.o.low _ hn;omega
    have hdc:¬D w.heap.size:=fun hn=>by have:=HH.o.o_ _ hn;omega
    have hnl:(aU T 0).length≤65535:=by
     obtain⟨z,hz,-⟩:=gJ HK0.o;rw[dX hz];exact(HP.o.get hz).few
    have Sj:Fw T [(0,1)]+(aU T 0).length≤1000000000000:=by
     have h1:zc T [(0,1)]≤T.length:=List.countP_le_length;have h2:sm [(0,1)]=1:=rfl;unfold Fw;omega
    have hlk:=GQ w.heap.size ⟨hgc,hdc⟩ HP.o 8 (by omega) 0 [(0,1)] w1 hA1 HK0.o hm1 (List.pairwise_singleton _ _) (by decide) Sj;rw[show(8-((8:Nat):Int))=0 from rfl]at hlk;have qP:=acr hlk;clear hb1 hm1 hA1 hgc hdc hnl Sj hlk hmm;go_wp2_with fail;refine qP.o.mono ?_;rintro e w2 ⟨hK2,r,rfl,hiff,hok⟩;have HIFF:=acr hiff;have HB2:=acr (HB1.o.trans (hK2.gP HB1.o.size fun z hz (e:z=w.heap.size)=>by omega));cases r with
    |false=>
     clear hK2 hiff hok;go_wp2_with fail;go_ret;exact⟨HB2.o,false,rfl,⟨fun h=>(by cases h),fun h=>by have:=HIFF.o.2 h.2.2.1;cases this⟩⟩
    |true=>
     obtain⟨C2,-,hc2,-,-,hm2⟩:=hok rfl;have SI:=acr (hiff.1 rfl);have xL:=acr hc2;have zO:=acr hm2;have HA2:=acr (HH.o.below HB2.o acu);have HMAP2:=acr HA2.o.map;have hcw2:=hm2.lt;have hmw2:=HMAP2.o.lt;have hq2:=HA2.o.cell.1;have hcm:w.heap.size≠mb:=by omega
     clear hc2 hm2 hK2 hiff hok;go_wp2_with (at_range;refine oZ bK rfl _ 104 102 rfl Tryz.underlying104 rfl HMAP2.o ?_;intro w3 tV hB3 hs3)
     go_frame
     have HB3:=acr hB3;have HR3:=acr tV;clear hB3 tV
     go_loopw [6,7] (fun _ _ wr=>RtRel T ib mb w2.heap.size w3 wr) (fun _ _ wr=>wr.rangeLeft mb w2.heap.size)
     case atStart=>
      refine⟨_,_,HR3.o,fun q hq hl=> ?_,Keeps.refl _ _⟩;rw[eX,aS bY HP.o.sorted hq]at hl;cases hl
     case round=>
      obtain⟨left,cnt,hR,hall,hK⟩:=hrel;have HR:=acr hR;have BS:=acr hall;have HK:=acr hK;clear hR hall hK;go_wp2_with (first|(at_next;refine qU bK rfl _ rfl rfl HR.o ?_ ?_))
      ·intro hdone;have Ck:=acr hdone;clear hdone;go_wp2_with fail;go_ret;refine⟨HB2.o.trans ((HB3.o.mono HB2.o.size).trans (HK.o.gP (by omega) fun z hz (e:z=w2.heap.size)=>by have:=HB2.o.size;omega)),true,rfl,⟨fun _=>⟨HK0.o,h64,SI.o,fun q hq=>BS.o q hq (Ck.o _)⟩,fun _=>rfl⟩⟩
      ·intro k v w4 cnt1 TR hleft hg2 nu hlt hK1 hs1 hen;rw[eX]at hg2;cases hy:aj k T with
       |none=>rw[hy]at hg2;cases hg2
       |some y=>
        rw[hy]at hg2;cases hg2;have hK4:Keeps (fun b=>b=w2.heap.size) w3 w4:=HK.o.trans hK1 fun z _ hz=>hz;have hs3':=HK.o.size;have La:aP g D w4 p mb ib nb T:=(HA2.o.below HB3.o acu).keeps hK4 fun z hz (e:z=w2.heap.size)=>by
         rcases hz with hz|hz
         ·have:=HA2.o.low z hz;omega
         ·have:=HA2.o.o_ z hz;omega
        obtain⟨-,-,y2,-,-,y5,-,hyw⟩:=(La.item k y hy).cell;have Jm:MapAt bK w4 w.heap.size (ET C2):=(zO.o.kept (HB3.o.block _ hcw2)).kept (hK4.block _ (by omega) (by omega));obtain⟨cN,Lg⟩:∃cN,cN=jW C2 k:=⟨_,rfl⟩;have hlk:∀n,(Instr.lookup 221 (.map (some w.heap.size)) (.int .i64 k) false).run Tryz.prog (w4.drewN n)= .ok (.int .i64 (cN:Int)) (w4.drewN n):=fun n=>by
         have h9:=MapAt.Ws (F:=bK) (w:=w4.drewN n) (t:=221) Tryz.underlying221 (Tryz.kN _) (Jm.kept rfl) k TR;rw[EC,←Lg]at h9;exact h9
        have HIS:acs ((GR T (k,y)↔(cN:Int)=y.links∧¬(y.links=0∧y.closed=true))):=by
         unfold GR;dsimp only;rw[Lg,xL.o k,KU];exact acr Iff.rfl
        have Zd:acs ((k,y)∈T):=bM hy;have HR1:=acr nu;have wB:=acr hlt;have Bc:=acr hK4;have IU:acs (∀w',Keeps (fun b=>b=w2.heap.size) w3 w'→Below w.heap.size w w'):=fun w' hK=>HB2.o.trans ((HB3.o.mono HB2.o.size).trans (hK.gP (by have:=HB2.o.size;omega) fun z hz (e:z=w2.heap.size)=>by have:=HB2.o.size;omega));have HGT:=acr (fun z (hz:aj z T=some y)=>hz);have e3:bK.val k= .int .i64 k:=rfl;rw[e3]at hen⊢;have HY:=acr hy;clear e3 nu hlt hK4 La Jm Lg hy hK1 hs1;have HFAIL:acs (¬GR T (k,y)→¬lS T):=fun hn hR=>hn (hR.2.2.2 _ Zd.o);have F4:acs (GR T (k,y)→∀q∈T,(left q.1&& !decide (q.1=k))=false→GR T q):=fun hrow q hq hl=>by
         by_cases hqk:q.1=k
         ·have h9:=aS bY HP.o.sorted hq;rw[hqk,HY.o]at h9;have e9:y=q.2:=aaH h9;have:q=(k,y):=aaE hqk e9.symm;rw[this];exact hrow
         ·refine BS.o q hq ?_;simpa[hqk]using hl
        by_cases hcl:(cN:Int)=y.links
        ·have d2:((cN:Int)==y.links)=true:=by simpa using hcl
         have d3:((cN:Int) !=y.links)=false:=by simpa using hcl
         by_cases hl0:y.links=0
         ·have d4:(y.links==0)=true:=by simpa using hl0
          cases hyc:y.closed with
          |true=>
           rw[hyc]at y5;have HF:=acr (HFAIL.o fun hr=>(HIS.o.1 hr).2 ⟨hl0,hyc⟩);clear hcl hl0 hyc;go_wp2_with fail
           go_quiet (fail)
           go_wp2_with fail;go_ret;exact⟨IU.o _ (Keeps.trans Bc.o (fp':=fun b=>b=w2.heap.size) ⟨rfl,rfl,rfl,Nat.le_refl _,fun _ _ _=>rfl⟩ fun z _ hz=>hz),false,rfl,⟨fun h=>(by cases h),fun h=>absurd h HF.o⟩⟩
          |false=>
           rw[hyc]at y5;have HG9:=acr (F4.o (HIS.o.2 ⟨hcl,fun hh=>by rw[hyc]at hh;cases hh.2⟩));clear hcl hl0 hyc;go_wp2_with fail
           go_quiet (fail)
           go_wp2_with fail;go_roundw
           case rel=>exact⟨_,cnt1,HR1.o.kept rfl rfl,HG9.o,Keeps.trans Bc.o (fp':=fun b=>b=w2.heap.size) ⟨rfl,rfl,rfl,Nat.le_refl _,fun _ _ _=>rfl⟩ fun z _ hz=>hz⟩
           case measure=>
            have h4:=HR1.o.kept (w':=w4.drewN nq) rfl rfl;rw[h4.measure,HR.o.measure];exact wB.o
         ·have d4:(y.links==0)=false:=by simpa using hl0
          have HG9:=acr (F4.o (HIS.o.2 ⟨hcl,fun hh=>hl0 hh.1⟩));clear hcl hl0;go_wp2_with fail
          go_quiet (fail)
          go_wp2_with fail;go_roundw
          case rel=>exact⟨_,cnt1,HR1.o.kept rfl rfl,HG9.o,Keeps.trans Bc.o (fp':=fun b=>b=w2.heap.size) ⟨rfl,rfl,rfl,Nat.le_refl _,fun _ _ _=>rfl⟩ fun z _ hz=>hz⟩
          case measure=>
           have h4:=HR1.o.kept (w':=w4.drewN nq) rfl rfl;rw[h4.measure,HR.o.measure];exact wB.o
        ·have d2:((cN:Int)==y.links)=false:=by simpa using hcl
         have d3:((cN:Int) !=y.links)=true:=by simpa using hcl
         have HF:=acr (HFAIL.o fun hr=>hcl (HIS.o.1 hr).1);clear hcl;go_wp2_with fail
         go_quiet (fail)
         go_wp2_with fail;go_ret;exact⟨IU.o _ (Keeps.trans Bc.o (fp':=fun b=>b=w2.heap.size) ⟨rfl,rfl,rfl,Nat.le_refl _,fun _ _ _=>rfl⟩ fun z _ hz=>hz),false,rfl,⟨fun h=>(by cases h),fun h=>absurd h HF.o⟩⟩
   ·have OL:acs ((T.map fun q=>(q.1,ptr (ib q.1))).length=T.length):=List.length_map _;obtain⟨n,hn⟩:∃n,n=T.length:=⟨_,rfl⟩;have d1:decide ((64:Int)<(n:Int))=true:=by simp;omega
    have HN:=acr hn;have HF:acs (¬lS T):=fun hR=>by
     have:=hR.2.1;omega
    clear h hP hx hk hk0 hn h64;go_enter Tryz.func131,Tryz.ntmps131;go_wp2_with (first|(at_lookup;refine bF bK rfl _ _ 104 102 rfl Tryz.underlying104 (Tryz.dP _) rfl n_.o 0 rfl hok0 ?_;rw[HG.o])|(at_len;refine lU bK rfl _ 104 102 rfl Tryz.underlying104 rfl n_.o ?_;rw[OL.o,←HN.o]));go_ret;exact⟨Below.refl _ _,false,rfl,⟨fun h=>(by cases h),fun h=>absurd h HF.o⟩⟩
  ·have g1:(x.kind==2)=false:=by simpa using hk
   have g1':(x.kind !=2)=true:=by simpa using hk
   have HF:acs (¬lS T):=fun hR=>by
    have:=hR.1;rw[dh hx]at this;exact hk this
   clear h hP hx hk hlen;go_enter Tryz.func131,Tryz.ntmps131;go_wp2_with (at_lookup;refine bF bK rfl _ _ 104 102 rfl Tryz.underlying104 (Tryz.dP _) rfl n_.o 0 rfl hok0 ?_;rw[HG.o]);go_ret;exact⟨Below.refl _ _,false,rfl,⟨fun h=>(by cases h),fun h=>absurd h HF.o⟩⟩
end
theorem GU(b:List UInt8):0≤(dx b).1.id∧(dx b).1.id≤65535:=by
 unfold dx;split
 ·exact(uo b).id
 ·exact⟨by decide,by decide⟩
theorem Ze{s:Rd}{q:(Int×bJ)×Rd}(h:jq s=some q):0≤q.1.1∧q.1.1≤65535:=by
 unfold jq at h;dsimp only at h;split at h
 ·cases h
 ·split at h
  ·split at h
   ·cases h;exact GU _
   ·cases h
  ·split at h
   ·cases h
   ·cases h;exact GU _
def qL(bs:List UInt8)(w:World)(e:Ending)(w':World):Prop:=
 (∃T p,parseM bs=some T∧lS T∧e= .returned (.tuple #[ptr p,.int .i64 0])∧uw w p T w')∨((∀T,parseM bs=some T→¬lS T)∧e= .returned (.tuple #[.pointer none,.int .i64 12])∧Below w.heap.size w w')
theorem qL.no{bs:List UInt8}{w w':World}(h:∀T,parseM bs=some T→¬lS T)(hb:Below w.heap.size w w'):qL bs w (.returned (.tuple #[.pointer none,.int .i64 12])) w':= .inr ⟨h,rfl,hb⟩
def LdRel(Dr:Nat→Prop)(w w1:World)(x p mb cnt:Nat)(s0:Rd)(lv iv:Value)(wr:World):Prop:=
 ∃(k:Nat) (sr:Rd) (last:Int) (acc:aA) (g:Nat→Own) (D:Nat→Prop) (ib nb:Int→Nat),iv= .int .i64 k∧k≤cnt∧lv= .int .i64 last∧-1≤last∧last≤65535∧qJ (cnt-k) sr last acc=qJ cnt s0 (-1) []∧(∀q∈acc,q.1≤last)∧acc.length=k∧
  bO Dr wr x sr∧aP g D wr p mb ib nb acc∧(∀b,g b≠ .none∨D b→w1.heap.size≤b)∧Below w.heap.size w wr
theorem NR{w1 w2:World}(hw:w2=(w1.alloc (.map #[] 0)).alloc (.cells #[.map (some w1.heap.size)] 106)):aP (fun b=>if b=w1.heap.size+1 then .head else if b=w1.heap.size then .items else .none) (fun _=>False) w2 (w1.heap.size+1) w1.heap.size (fun _=>0) (fun _=>0) []:=by
 have hs:w2.heap.size=w1.heap.size+2:=by rw[hw];simp
 refine⟨?_,?_,fun k x h=>(by cases h),by simp,by simp,fun k x h=>(by cases h),fun k x h=>(by cases h),fun b h=>h.elim,fun b hb=> ?_,fun b h=>h.elim⟩
 ·rw[hw];have:=(MapKept.heap_alloc (w1.alloc (.map #[] 0)) (.cells #[.map (some w1.heap.size)] 106)).1;rw[Pe]at this;exact this
 ·rw[hw];exact(MapAt.made (F:=bK) w1).kept ((wall _ _).block _ (by simp))
 ·by_cases h1:b=w1.heap.size+1
  ·omega
  ·by_cases h2:b=w1.heap.size
   ·omega
   ·rw[if_neg h1,if_neg h2]at hb;exact absurd rfl hb
theorem GV{S:Nat→Prop}(a:Option Addr)(n c:Nat)(bs:List UInt8)(w:World)(hm:n≤100000000)(hr:ah S w a n (bs.map bv)):
  Calls Tryz.prog 59 #[.slice a n c] w (qL bs w):=by
 have HN:=acr (rQ a n c bs w hm hr);have hmm:= @run_makeMap Tryz.prog;clear hr;go_enter Tryz.func59,Tryz.ntmps59;go_wp2_with fail;refine HN.o.mono ?_;rintro e w1 ⟨x,rfl,hx,nu,hb1⟩;have HX:=acr hx;have HB1:=acr hb1;have hxw:=nu.lt;have HR1:=acr nu;clear hx hb1 nu HN;go_wp2_with fail;obtain⟨w2,hw2⟩:∃w2,w2=(w1.alloc (.map #[] 0)).alloc (.cells #[.map (some w1.heap.size)] 106):=⟨_,rfl⟩;rw[←hw2];have hb2:Below w1.heap.size w1 w2:=by rw[hw2];exact(wall w1 _).trans ((wall _ _).mono (by simp))
 have HT2:=acr (NR hw2);have hs2:w2.heap.size=w1.heap.size+2:=by rw[hw2];simp
 have HB2:=acr hb2;obtain⟨Dr,hDr⟩:∃Dr:Nat→Prop,Dr=fun b=>w.heap.size≤b∧b<x:=⟨_,rfl⟩;have HDR:=acr (fun b (hb:Dr b)=>(by rw[hDr]at hb;exact hb:w.heap.size≤b∧b<x));rw[←hDr]at HR1;have HR2:=acr (HR1.o.below hb2 acu);have HS:=acr (qK HR2.o);obtain⟨cnt,hcnt⟩:∃cnt:Nat,(bq (bs,0) 2).1=(cnt:Int):=⟨(bq (bs,0) 2).1.toNat,by have:=eD (bs,0) 2;omega⟩;have hcb:cnt<65536:=by
  have h1:=eD (bs,0) 2;have:(256:Int)^2=65536:=rfl;omega
 obtain⟨s0,hs0⟩:∃t,t=(bq (bs,0) 2).2:=⟨_,rfl⟩;rw[hcnt,←hs0]at HS;have HPA:acs (parseM bs=match qJ cnt s0 (-1) []with|none=>none|some q=>if pG q.2=0 then some q.1 else none):=by
  show _=_;unfold parseM;rw[hcnt,←hs0,aa2];rfl
 clear hw2 hb2 hDr hcnt hs0 hmm;go_wp2_with fail;refine HS.o.mono ?_;rintro e w3 ⟨rfl,tV,hK3⟩;have HR3:=acr tV;have HB3:acs (Below w.heap.size w w3):=HB1.o.trans ((HB2.o.mono HB1.o.size).trans (vX hK3 HX.o (by have:=HB1.o.size;omega)));have HT3:=acr (HT2.o.keeps hK3 fun z hz (e:z=x)=>by
  subst e;rcases hz with hz|hz
  ·rw[if_neg (by omega),if_neg (by omega)]at hz;exact hz rfl
  ·exact hz)
 clear tV hK3 HS HR2 HT2;go_wp2_with fail
 go_loopw [6,7,8,16] (fun lv _ _ iv wr=>LdRel Dr w w1 x (w1.heap.size+1) w1.heap.size cnt s0 lv iv wr) (fun _ _ _ iv _=>cnt-(intOf iv).toNat)
 case atStart=>
  refine⟨0,s0,-1,[],_,_,_,_,rfl,Nat.zero_le _,rfl,by omega,by omega,rfl,fun q hq=>(by cases hq),rfl,HR3.o,HT3.o,fun b hb=> ?_,HB3.o⟩;rcases hb with hb|hb
  ·refine abw fun hn=> ?_;rw[if_neg (by omega),if_neg (by omega)]at hb;exact hb rfl
  ·exact hb.elim
 case round=>
  obtain⟨k,sr,last,acc,g,D,ib,nb,rfl,hk,rfl,hl0,hl1,hrd,hal,hac,hRr,hTr,hnew,hB⟩:=hrel;have rz:=acr hrd;have HAL:=acr hal;have HAC:=acr hac;have HRR:=acr hRr;have uF:=acr hTr;have Sk:=acr hnew;have HB:=acr hB;clear hrd hal hac hRr hTr hnew hB;by_cases hlt:k<cnt
  ·have HI:=acr (Sg HRR.o);go_wp2_with fail;refine HI.o.mono ?_;rintro e w4 ⟨hK4,Jm⟩;have eT:acs (Below w.heap.size w w4):=HB.o.trans (vX hK4 HX.o HB.o.size);cases hq:jq sr with
   |none=>
    rw[hq]at Jm;obtain⟨v,rfl⟩:=Jm;have HF:acs (∀T,parseM bs=some T→¬lS T):=fun T hT=>by
     rw[HPA.o,←rz.o,show cnt-k=(cnt-(k+1))+1 by omega,BD hq]at hT;cases hT
    clear hq hK4 HI;go_wp2_with fail
    go_ret2
    exact qL.no HF.o eT.o
   |some q=>
    rw[hq]at Jm;obtain⟨i,nn,D3,rfl,Cq,hI4,hi1,hi2,hn1,hd3⟩:=Jm;obtain⟨q0,q1⟩:=Ze hq;obtain⟨c0,-,-,-,-,-,-,hiw⟩:=hI4.cell;by_cases hle:q.1.1≤last
    ·have HF:acs (∀T,parseM bs=some T→¬lS T):=fun T hT=>by
      rw[HPA.o,←rz.o,show cnt-k=(cnt-(k+1))+1 by omega,rE hq,if_pos hle]at hT;cases hT
     have d1:decide (q.1.1≤last)=true:=by simpa using hle
     clear hq hK4 Cq hI4 hn1 hd3 HI hle;go_wp2_with fail
     go_ret2
     exact qL.no HF.o eT.o
    ·have d1:decide (q.1.1≤last)=false:=by simpa using hle
     have hxg:g x= .none:=abw fun hn=>by have:=Sk.o x (.inl hn);omega
     have hxd:¬D x:=fun hn=>by have:=Sk.o x (.inr hn);omega
     have kK:aP g D w4 (w1.heap.size+1) w1.heap.size ib nb acc:=uF.o.keeps hK4 fun z hz (e:z=x)=>by
      subst e;rcases hz with hz|hz
      ·exact hz hxg
      ·exact hxd hz
     obtain⟨hc4,hpw4,hmw4⟩:=kK.cell;have hokq:bK.ok q.1.1:=kD q0 (by omega);have hlast:∀y∈acc,y.1≠q.1.1∧iA q.1.1 y.1=false:=fun y hy=>by
      have h9:=HAL.o y hy;exact⟨by omega,aay (by omega)⟩
     have og:acs (b_ iA q.1.1 q.1.2 acc=acc++[q.1]):=GL iA q.1.2 hlast;have Dx:acs (aj q.1.1 acc=none):=iP.2 fun y hy=>(hlast y hy).1;have HLEN:acs ((acc.map fun q=>(q.1,ptr (ib q.1))).length<maxLen):=by
      show _<_;rw[List.length_map,HAC.o];unfold maxLen;omega
     have nI:=acr kK.map;have IJ:=acr kK;have HQ:=acr hq;have Bc:=acr hK4;have HR4:=acr Cq;have HI4:=acr hI4;have HI1:=acr (And.intro hi1 hi2);have BU:=acr hn1;have HD3:=acr hd3;have FN:=acr hle;have hs4:=hK4.size;clear hq hK4 Cq hI4 hn1 hd3 HI hle kK hlast hxg hxd;obtain⟨qk,hqk⟩:∃qk,qk=q.1.1:=⟨_,rfl⟩;rw[←hqk]at c0 d1 hokq og Dx HI4 FN q0 q1;have HQK:=acr hqk;clear hqk;go_wp2_with (at_mapUpdate;refine mK bK rfl _ _ _ 104 102 rfl Tryz.underlying104 rfl nI.o HLEN.o qk (ptr i) rfl rfl hokq ?_;intro w5 Zw hT5;have Ct:=acr Zw;have wZ:=acr hT5;clear Zw hT5);go_roundw
     case rel=>
      have hs5:=jL wZ.o;have hn1:=BU.o;have hi1':=HI1.o.1;have hi2':=HI1.o.2;have hnone:∀b,wr.heap.size≤b→g b= .none∧¬D b:=fun b hb=>⟨abw fun hn=>by have:=uF.o.low b hn;omega,fun hn=>by have:=uF.o.o_ b hn;omega⟩;have hmr:=uF.o.cell.2.2;have hkeep:∀b,b<w4.heap.size→b≠w1.heap.size→w5.heap[b]? =w4.heap[b]? :=fun b hb hne=>dL wZ.o b hb hne;have hi5:jD D3 w5 qk i nn q.1.2:=HI4.o.move (by omega) (hkeep _ (by omega) (by omega)) (fun hk2=>hkeep _ (by have:=(hn1 hk2).2.1;omega) (by have:=(hn1 hk2).1;omega)) fun b hb hbw=>⟨hb,hkeep b hbw (by have:=(HD3.o b hb).1;omega)⟩;have hA5:=IJ.o.add2 (w':=w5) (D2:=D3) (k:=qk) (x:=q.1.2) (i:=i) (n:=nn) (hnone i (by omega)) (fun hk2=>hnone nn (hn1 hk2).1) (fun hk2=>(hn1 hk2).2.2) (by omega) (fun hk2=>by have:=(hn1 hk2).2.1;omega) Dx.o Ct.o (by omega) (fun b hb _ hne=>hkeep b hb hne) hi5 (fun b hb=>by
       obtain⟨e1,e2,e3,e4⟩:=HD3.o b hb;exact⟨(hnone b e1).1,by omega,e3,e4⟩)
      rw[og.o]at hA5;refine⟨k+1,q.2,qk,acc++[q.1],_,_,_,_,by go_num,by omega,rfl,by omega,by omega,?_,fun y hy=> ?_,by rw[List.length_append,HAC.o];rfl,?_,hA5,fun b hb=> ?_,?_⟩
      ·rw[←rz.o,show cnt-k=(cnt-(k+1))+1 by omega,rE HQ.o,if_neg (by rw[←HQK.o];have:=FN.o;omega),←HQK.o]
      ·rcases aap.1 hy with h9|h9
       ·have:=HAL.o y h9;have:=FN.o;omega
       ·simp only[List.mem_singleton]at h9;rw[h9,←HQK.o];exact aaS _
      ·exact HR4.o.kept (by omega) (hkeep x (by have:=HR4.o.lt;omega) (by omega)) fun b hb hbw=>hkeep b hbw (by have:=HDR.o b hb;omega)
      ·have hw1r:w1.heap.size≤wr.heap.size:=by omega
       rcases hb with hb|hb
       ·by_cases e1:b=i
        ·omega
        ·by_cases e2:b=nn∧q.1.2.kind=2
         ·have:=(hn1 e2.2).1;omega
         ·rw[if_neg e1,if_neg e2]at hb;exact Sk.o b (.inl hb)
       ·rcases hb with hb|hb
        ·exact Sk.o b (.inr hb)
        ·have:=(HD3.o b hb).1;omega
      ·exact eT.o.trans ((Keeps.turned wZ.o).gP (by have:=eT.o.size;omega) fun z hz (e:z=w1.heap.size)=>by have:=HB1.o.size;omega)
     case measure=>simp[intOf];omega
  ·obtain rfl:k=cnt:=by omega
   have HE:=acr (IC HRR.o);by_cases hz:pG sr=0
   ·have hpa:parseM bs=some acc:=by
     rw[HPA.o,←rz.o,Nat.sub_self,rD];dsimp only;rw[if_pos hz]
    have Im:=acr (NQ wr uF.o (wN hpa).2);have HPB:=acr hpa;rw[hz]at HE;clear hz hpa;go_wp2_with fail;refine HE.o.mono ?_;rintro e _ ⟨rfl,rfl⟩;go_wp2_with fail;refine Im.o.mono ?_;rintro e w4 ⟨hb4,r,rfl,hiff⟩;have eT:=acr hb4;cases r with
    |true=>
     have HRI:=acr (hiff.1 rfl);clear hiff hb4;go_wp2_with fail
     go_ret2
     exact .inl ⟨acc,_,HPB.o,HRI.o,rfl,g,D,w1.heap.size,ib,nb,uF.o.below eT.o acu,fun b hb=>by have:=Sk.o b (.inl hb);have:=HB1.o.size;omega,fun b hb=>by have:=Sk.o b (.inr hb);have:=HB1.o.size;omega,HB.o.trans (eT.o.mono HB.o.size)⟩
    |false=>
     have HRI:acs (∀T,parseM bs=some T→¬lS T):=fun T hT hR=>by
      rw[HPB.o]at hT;cases hT;have:=hiff.2 hR;cases this
     clear hiff hb4;go_wp2_with fail
     go_ret2
     exact qL.no HRI.o (HB.o.trans (eT.o.mono HB.o.size))
   ·have d1:(pG sr !=0)=true:=by simpa using hz
    have HF:acs (∀T,parseM bs=some T→¬lS T):=fun T hT=>by
     rw[HPA.o,←rz.o,Nat.sub_self,rD]at hT;dsimp only at hT;rw[if_neg hz]at hT;cases hT
    clear hz;go_wp2_with fail;refine HE.o.mono ?_;rintro e _ ⟨rfl,rfl⟩;go_wp2_with fail
    go_ret2
    exact qL.no HF.o HB.o
theorem uw.froz{W w w':World}{o:Mark}{p:Nat}{T:aA}(h:uw w p T w')(hM:Marks W o w):gZ o 0 w' p T:=by
 obtain⟨g,D,mb,ib,nb,hA,hg,hD,hb⟩:=h;have h0:∀b,w.heap.size≤b→o b=0:=fun b hb'=>Decidable.byContradiction fun h9=>by have:=(hM.new b h9).2;omega
 exact⟨g,D,mb,ib,nb,hA,fun b hb'=>h0 b (hg b hb'),fun b hb'=>h0 b (hD b hb')⟩
theorem uw.below{w w':World}{p:Nat}{T:aA}(h:uw w p T w'):Below w.heap.size w w':=by
 obtain⟨g,D,mb,ib,nb,hA,hg,hD,hb⟩:=h;exact hb
section
variable{W w:World}{o:Mark}{p:Nat}{T:aA}
theorem uw.mark{w':World}(h:uw w p T w')(hM:Marks W o w)(j:Nat):∃o',Step o (fun k=>k=j) w o' w'∧gZ o' j w' p T:=by
 obtain⟨g,D,mb,ib,nb,hA,hg,hD,hb⟩:=h;obtain⟨o',hs,h1,h2⟩:=iQ hM j (fun b=>g b≠ .none) (fun b hb'=>⟨hg b hb',hA.low b hb'⟩) hb;refine⟨o',hs,g,D,mb,ib,nb,hA,fun b hb'=>h1 b hb',fun b hb'=> ?_⟩;rw[h2 b (by rw[hA.data b hb'];simp)];exact Decidable.byContradiction fun h9=>by have:=(hM.new b h9).2;have:=hD b hb';omega
end
def NS(T:aA):Prop:=∀k x,aj k T=some x→x.names.length≤65535
def KW(T:aA):Prop:=OkW T∧NS T
theorem kw_ok(T:aA)(h:KW T):OkW T∧∀k x,aj k T=some x→x.names.length≤65535:=h
theorem NS.dO{T:aA}(h:NS T)(id:Int):NS (dO T id).2:=fun k x hx=>by
 unfold Go.Proofs.YtjnhnlabpccgjaaGreatDoor.dO at hx;simp only at hx;split at hx
 ·rw[rY,eP]at hx;split at hx
  ·cases hx
  ·rw[jr]at hx;cases hy:aj k T with
   |none=>rw[hy]at hx;cases hx
   |some y=>
    rw[hy]at hx;simp only[aao,Pd]at hx;subst hx;exact aax (aa4 _ _) (h k y hy)
 ·exact h k x hx
theorem NS.bg{T:aA}(h:NS T):∀k,NS (bg T k)
 |0=>by rw[jX];exact h
 |k+1=>by
  cases hg:(kX T)[k]? with
  |some id=>rw[jw hg];exact(h.bg k).dO id
  |none=>
   have:Go.Proofs.YtjnhnlabpccgjaaGreatDoor.bg T (k+1)=Go.Proofs.YtjnhnlabpccgjaaGreatDoor.bg T k:=by
    have hl:=abO.1 hg;unfold Go.Proofs.YtjnhnlabpccgjaaGreatDoor.bg;rw[List.take_of_length_le hl,List.take_of_length_le (by omega)]
   rw[this];exact h.bg k
theorem KW.aV{T:aA}(h:KW T):KW (aV T):=⟨h.1.aV,by rw[←kP];exact h.2.bg _⟩
theorem Pz{T:aA}(h:uL T)(hR:lS T):KW T:=⟨(NC h hR).1,fun k x hx=>(h.get hx).few⟩
structure jU(nx bh:Int)(x:iw):Prop where
 ok:fZ x.t
 com:aV x.t=x.t
 id:1≤x.id∧x.id<nx
 up:bh<x.id
 hash:x.hash.length=32
theorem Sl{sr s1 s2 s3:Rd}{id n:Int}{hash:List UInt8}{nx bh:Int}(n1:bq sr 8=(id,s1))(n2:aL s1=(hash,s2))(n3:bq s2 8=(n,s3))(hnx:nx≤1099511627776){x:iw}{rest:List UInt8}(e:sr=(iJ x++rest,0))(h:jU nx bh x):
  id=x.id∧hash=x.hash∧n=((dw x.t).length:Int)∧s3=(dw x.t++rest,0)∧2≤(dw x.t).length∧(dw x.t).length≤6000000:=by
 have hsl:=ou h.ok.1;have hs2:2≤(dw x.t).length:=by unfold dw;rw[List.length_append,bB];omega
 have e8:(256:Int)^8=18446744073709551616:=rfl;have h1:=h.id;have h2:=h.hash;subst e;have m1:bq (iJ x++rest,0) 8=(x.id,(mG x.hash++(eB (dw x.t).length 8++(dw x.t++rest)),0)):=by
  unfold iJ;rw[TK,TK,TK];exact gW 8 x.id _ (by omega) (by omega)
 rw[m1]at n1;cases n1;rw[qI _ _ (by omega)]at n2;cases n2;rw[gW 8 _ _ (by omega) (by omega)]at n3;cases n3;exact⟨rfl,rfl,rfl,rfl,hs2,hsl⟩
theorem Wt{sr s1 s2 s3 s4:Rd}{id n:Int}{hash b:List UInt8}(n1:bq sr 8=(id,s1))(n2:aL s1=(hash,s2))(n3:bq s2 8=(n,s3))(h0:fq s3≠0)(hn0:0≤n)(hn:n≤(fq s3:Int))(n4:gH s3 n=(b,s4)):
  sr=(eB id 8++mG hash++eB (b.length:Int) 8++b++s4.1,0)∧s4=(s4.1,0)∧n=(b.length:Int):=by
 have h3:s3.2=0:=Decidable.byContradiction fun h=>h0 (by unfold fq;rw[if_pos h]);have hl:fq s3=s3.1.length:=by unfold fq;rw[if_neg (by simp[h3])]
 have h4:(gH s3 n).2.2=0:=by
  unfold gH;rw[if_neg (by simp[h3]),if_neg (by omega)];split
  ·exact h3
  ·rfl
 obtain⟨_,r2,r3⟩:=CJ hn0 h4;rw[n4]at h4 r2 r3;have k3:=h_ (s:=s2) (k:=8) (by rw[n3];exact h3);rw[n3]at k3;have k2:=mE (s:=s1) (by rw[n2];exact k3.1);rw[n2]at k2;have k1:=h_ (s:=sr) (k:=8) (by rw[n1];exact k2.1);rw[n1]at k1;dsimp only at h4 r2 r3 k1 k2 k3;refine⟨aaE ?_ k1.1,aaE rfl h4,r3.symm⟩;show sr.1=_;rw[k1.2.1,k2.2.1,k3.2.1,r2,r3];simp only[TK]
theorem Sm{sr s1 s2 s3:Rd}{id n:Int}{hash:List UInt8}(n1:bq sr 8=(id,s1))(n2:aL s1=(hash,s2))(n3:bq s2 8=(n,s3)):fq s3≤sr.1.length:=by
 by_cases h3:s3.2=0
 ·have hl:fq s3=s3.1.length:=by unfold fq;rw[if_neg (by simp[h3])]
  have k3:=h_ (s:=s2) (k:=8) (by rw[n3];exact h3);rw[n3]at k3;have k2:=mE (s:=s1) (by rw[n2];exact k3.1);rw[n2]at k2;have k1:=h_ (s:=sr) (k:=8) (by rw[n1];exact k2.1);rw[n1]at k1;dsimp only at k1 k2 k3;rw[hl,k1.2.1,k2.2.1,k3.2.1];simp only[List.length_append];omega
 ·unfold fq;rw[if_pos h3];omega
theorem Zf{b:List UInt8}{n:Int}{s3 s4:Rd}{x:iw}{rest:List UInt8}(n4:gH s3 n=(b,s4))(hn:n=((dw x.t).length:Int))(h3:s3=(dw x.t++rest,0)):b=dw x.t∧s4=(rest,0):=by
 subst h3;rw[vW _ _ _ hn]at n4;cases n4;exact⟨rfl,rfl⟩
theorem Sn{b:List UInt8}{T:aA}{x:iw}{nx bh:Int}(h:parseM b=some T)(hb:b=dw x.t)(hg:jU nx bh x):T=x.t:=by
 rw[hb,uq (fZ.Ph hg.ok.1)]at h;exact(aaH h).symm
end Go.Proofs.YtjnhnlabpccgjaaGreatDoor
