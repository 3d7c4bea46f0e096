/- tree -/
import Derived.Test.YtjnhnlabpccgjaaGreatDoorM14
set_option maxRecDepth 100000
set_option maxHeartbeats 64000000
set_option linter.all false
namespace Go.Proofs.YtjnhnlabpccgjaaGreatDoor
open Go.ChangeShapes Go.WideShapes Go.ChangeAt Go.RowKit
section
variable{g:Nat→Own}{D:Nat→Prop}{p mb:Nat}{ib nb:Int→Nat}{T:aL}
theorem Gz{S:Nat→Prop}(a:Option Addr)(n c:Nat)(ls:List Nm)(w:World)(h:aO g D w p mb ib nb T)(hT:dG T)(hS:aK S w a n (ls.map strOf)):
  Calls Tryz.prog 142 #[ptr p,.slice a n c] w fun e w'=>e= .returned (.tuple #[.int .i64 (aQ T ls).1,.int .i64 (aQ T ls).2])∧Below w.heap.size w w':=by
 have HF:=acA (yN (S:=S) a n c ls w hS);have mg:=acA (fun w1 (hb:Below w.heap.size w w1)=>sG a n c ls w1 (h.below hb acC) hT (hS.below hb acC));clear h hT hS;by_cases hf:bg ls=0
 ·have HE:acB (aQ T ls=aJ T 0 ls):=by unfold aQ;rw[if_neg (by rw[hf];simp)];exact rfl
  rw[hf]at HF;clear hf;go_enter Tryz.func142,Tryz.ntmps142;go_wp2_with fail;refine HF.o.mono ?_;rintro e w1 ⟨rfl,hb1⟩;have HB1:=acA hb1;clear hb1;go_wp2_with fail;refine(mg.o w1 HB1.o).mono ?_;rintro e w2 ⟨rfl,rfl⟩;go_wp2_with fail
  go_ret2
  rw[HE.o];exact⟨rfl,HB1.o⟩
 ·have HE:acB (aQ T ls=(0,bg ls)):=by unfold aQ;rw[if_pos hf];exact rfl
  have hne:(bg ls==0)=false:=by simpa using hf
  have hne2:(bg ls !=0)=true:=by simpa using hf
  clear hf;go_enter Tryz.func142,Tryz.ntmps142;go_wp2_with fail;refine HF.o.mono ?_;rintro e w1 ⟨rfl,hb1⟩;have HB1:=acA hb1;clear hb1;go_wp2_with fail
  go_ret2
  rw[HE.o];exact⟨rfl,HB1.o⟩
theorem C8{S:Nat→Prop}{d:Int}{nm:Nm}(a:Option Addr)(n c:Nat)(ls:List Nm)(w:World)(h:aO g D w p mb ib nb T)(hT:dG T)(hS:aK S w a n (ls.map strOf))(hc:n≤c)(lF:n≤1000000)(hp:aH T ls=(d,nm,0)):
  Calls Tryz.prog 140 #[ptr p,.slice a n c] w fun e w'=>e= .returned (.tuple #[ptr (ib d),.string (strOf nm),.int .i64 0])∧Below w.heap.size w w':=by
 have:=wF a n c ls w h hT hS hc lF;unfold qJ at this;rw[hp]at this;exact this
theorem nk{w:World}{d:Int}{x:bP}(h:aO g D w p mb ib nb T)(hx:aj d T=some x)(hk:x.kind=2):w.cell? ⟨ib d,7,none⟩=some (.map (some (nb d)))∧MapAt dZ w (nb d) (bW x):=by
 have hi:=h.item d x hx;obtain⟨_,_,_,_,_,_,c7,_⟩:=hi.cell;unfold eY at c7;rw[if_pos hk]at c7;exact⟨c7,hi.names hk⟩
theorem Sq{nm:Nm}(h:dO nm=true):dZ.ok nm:=by
 have:=sH nm h;show nm.length≤maxLen;unfold maxLen;omega
theorem GA{w w':World}{d:Int}{x:bP}{n:Nm}(h:aO g D w p mb ib nb T)(hx:aj d T=some x)(hk:x.kind=2)(hM:MapAt dZ w' (nb d) (bS n (bW x)))(hT:w.mapTurned w' (nb d)):aO g D w' p mb ib nb (aG T d n)∧Keeps (fun b=>g b≠ .none) w w':=
 ⟨h.cut hx hk hM hT,(fJ hT).mono fun b _ hb=>by rw[show b=nb d from hb,h.pI d x hx hk];simp⟩
theorem iB{w w':World}{fp:Nat→Prop}(hb:Below w.heap.size w w'):Keeps fp w w':=(Keeps.below hb).mono fun b hb hb'=>absurd hb (by omega)
theorem O7{S:Nat→Prop}(a:Option Addr)(n c:Nat)(ls:List Nm)(w:World)(h:aO g D w p mb ib nb T)(hT:dG T)(hS:aK S w a n (ls.map strOf))(hc:n≤c)(lF:n≤1000000):
  Calls Tryz.prog 152 #[ptr p,.slice a n c] w (Turn g D w p mb (bC T ls).2 (.int .i64 (bC T ls).1)):=by
 have HH:=acA h;have HT:=acA hT;have HS:=acA hS;have HF:=acA (yN (S:=S) a n c ls w hS);have mg:=acA (fun w1 (hb:Below w.heap.size w w1)=>sG a n c ls w1 (h.below hb acC) hT (hS.below hb acC));clear h hT hS;by_cases hf:bg ls=0
 ·have uS:=acA hf;rw[hf]at HF;clear hf;have EH:acB (aQ T ls=aJ T 0 ls):=by unfold aQ;rw[if_neg (by rw[uS.o];simp)];exact rfl
  obtain⟨⟨id,e0⟩,hq⟩:∃q,q=aJ T 0 ls:=⟨_,rfl⟩;have HQ:=acA hq;rw[←hq]at mg EH;clear hq;by_cases he:e0=0
  ·subst he;obtain⟨y,hy⟩:=aaf.1 (qL HQ.o.symm HT.o);have HY:=acA hy;have rY:=HT.o.ids id y hy;have hok:bY.ok id:=jU rY.1 (by omega);have HG:acB (aj id (T.map fun q=>(q.1,ptr (ib q.1)))=some (ptr (ib id))):=by rw[fG,hy];rfl
   have HIT:acB (∀w1,Below w.heap.size w w1→w1.cell? ⟨p,0,none⟩=some (.map (some mb))∧MapAt bY w1 mb (T.map fun q=>(q.1,ptr (ib q.1)))∧w1.cell? ⟨ib id,1,none⟩=some (.int .i64 y.kind)):=fun w1 hb=>by
    have h2:=HH.o.below hb acC;obtain⟨_,c1,c2,_⟩:=(h2.item id y HY.o).cell;exact⟨h2.cell.1,h2.map,c1⟩
   clear hy;by_cases hk:y.kind=2
   ·have HM:acB (bC T ls=(22,T)):=by
     have:jL T ls=22:=by
      unfold jL;rw[EH.o,←HQ.o,if_neg (by simp),if_pos ((dM HY.o).trans hk)]
     unfold bC;rw[this]<;>exact rfl
    go_enter Tryz.func152,Tryz.ntmps152;go_wp2_with fail;refine HF.o.mono ?_;rintro e w1 ⟨rfl,hb1⟩;have HB1:=acA hb1;clear hb1;go_wp2_with fail;refine(mg.o w1 HB1.o).mono ?_;rintro e w2 ⟨rfl,rfl⟩;obtain⟨c0,hmap,c1⟩:=HIT.o w1 HB1.o;rw[hk]at c1;have jX:=acA hmap;clear hmap;go_wp2_with (first|(at_lookup;refine aY bY rfl _ _ 104 102 rfl Tryz.underlying104 (Tryz.bF _) rfl jX.o id rfl hok ?_;rw[HG.o]));go_ret;rw[HM.o];exact Turn.same HH.o HB1.o rfl
   ·have hkk:(y.kind==2)=false:=by simpa using hk
    have hp:ls≠[]:=fun e=>by
     have h1:id=0:=aaT Prod.fst (HQ.o.trans (by rw[e]<;>exact(rfl:aJ T 0 []=(0,0))));have:=HT.o.root;rw[←h1,dM HY.o]at this;exact hk this
    obtain⟨d,x,nm,e1,-,hx,hxk,hn,hmem,-⟩:=dx HQ.o.symm hp;have I9:=acA (jT uS.o _ hmem);have nH:=Sq I9.o;have HM:acB (bC T ls=(0,iR (bq id (fun x=>{x with links:=x.links-1}) (aG T d nm)) id)):=by
     have:jL T ls=0:=by
      unfold jL;rw[EH.o,←HQ.o,if_neg (by simp),if_neg (by rw[dM HY.o];exact hk)]
     unfold bC sD;rw[this,←HQ.o,e1];exact rfl
    have wY:=acA (fun w1 (hb:Below w.heap.size w w1)=>C8 a n c ls w1 (HH.o.below hb acC) HT.o (HS.o.below hb acC) hc lF e1);have HX:=acA hx;have Ba:=acA hxk;have hdi:id≠d:=fun e=>by subst e;rw[HY.o]at hx;cases hx;exact hk hxk
    have Fu:=acA hdi;have vF:=acA (fun w2 (hb:Below w.heap.size w w2)=>nk (HH.o.below hb acC) hx hxk);have HWID:acB ((Lit.int .i64 id).wf=true):=hok;have hln:=(HT.o.each id y HY.o).links;clear hk hp e1 hx hxk hn hmem hdi;go_enter Tryz.func152,Tryz.ntmps152;go_wp2_with fail;refine HF.o.mono ?_;rintro e w1 ⟨rfl,hb1⟩;have HB1:=acA hb1;clear hb1;go_wp2_with fail;refine(mg.o w1 HB1.o).mono ?_;rintro e w2 ⟨rfl,rfl⟩;obtain⟨c0,hmap,c1⟩:=HIT.o w1 HB1.o;have jX:=acA hmap;clear hmap;go_wp2_with (first|(at_lookup;refine aY bY rfl _ _ 104 102 rfl Tryz.underlying104 (Tryz.bF _) rfl jX.o id rfl hok ?_;rw[HG.o]));refine(wY.o w1 HB1.o).mono ?_;rintro e w2 ⟨rfl,hb2⟩;have HB2:=acA (HB1.o.trans (hb2.mono HB1.o.size));clear hb2;obtain⟨d7,gy⟩:=vF.o w2 HB2.o;have zZ:=acA gy;have HA2:=acA (HH.o.below HB2.o acC);clear gy;have Ag:acB (∀w3,MapAt dZ w3 (nb d) (bS nm (bW x))→w2.mapTurned w3 (nb d)→(aO g D w3 p mb ib nb (aG T d nm)∧Keeps (fun b=>g b≠ .none) w2 w3)∧aj id (aG T d nm)=some y∧w3.cell? ⟨ib id,2,none⟩=some (.int .i64 y.links)∧w3.frozen? ⟨ib id,2,none⟩=false):=fun w3 hM WJ=>by
     have h3:=GA HA2.o HX.o Ba.o hM WJ;have hy3:aj id (aG T d nm)=some y:=by unfold aG;rw[aW,if_neg Fu.o];exact HY.o
     exact⟨h3,hy3,(h3.1.item id y hy3).cell.2.2.1,(h3.1.item id y hy3).frozen 2⟩
    go_wp2_with (at_delete;refine mo dZ rfl _ _ 136 3 rfl aam rfl zZ.o nm rfl nH ?_;intro w3 Rv wJ;obtain⟨hA3,hy3,g2,Rs⟩:=Ag.o w3 Rv wJ;have Sr:=acA hA3;have HY3:=acA hy3;clear hA3 Rv wJ hy3);have hA3:=Sr.o;have hgi:=HH.o.rG id y HY.o
    have Lf:aO g D (w3.setCell ⟨ib id,2,none⟩ (.int .i64 (y.links-1))) p mb ib nb (bq id (fun x=>{x with links:=x.links-1}) (aG T d nm)):=
     hA3.1.fields HY3.o (fun x=>{x with links:=x.links-1}) rfl rfl rfl (Keeps.f_ w3 ⟨ib id,2,none⟩ _) (by rw[size_set]) fun a c hc=>by rw[aI hc];rfl
    have hy4:aj id (bq id (fun x=>{x with links:=x.links-1}) (aG T d nm))=some {y with links:=y.links-1}:=by rw[aW,if_pos rfl,HY3.o];rfl
    have tK:acB (Keeps (fun b=>g b≠ .none) w (w3.setCell ⟨ib id,2,none⟩ (.int .i64 (y.links-1)))):=
     ((iB HB2.o).trans hA3.2 (fun _ _ h=>h)).trans ((Keeps.f_ w3 ⟨ib id,2,none⟩ _).mono fun b _ hb=>by rw[show b=ib id from hb,hgi];simp) (fun _ _ h=>h)
    have ZP:=acA (CU id hy4 HWID.o _ Lf);have HGM:=acA HH.o.lW;clear hA3 hgi Lf hy4;refine ZP.o.mono ?_;rintro e w5 ⟨rfl,Lj,yU,_⟩;have ZQ:=acA Lj;have Lu:=acA yU;clear Lj yU;go_wp2_with fail;go_ret;rw[HM.o];exact Turn.of rfl ZQ.o (tK.o.trans (Lu.o.mono fun b _ hb=>by rw[show b=mb from hb,HGM.o];simp) (fun _ _ h=>h))
  ·have hne:(e0==0)=false:=by simpa using he
   have hne2:(e0 !=0)=true:=by simpa using he
   have HM:acB (bC T ls=(e0,T)):=by
    have:jL T ls=e0:=by
     unfold jL;rw[EH.o,if_pos he]
    unfold bC;rw[this,if_neg he];exact rfl
   clear he;go_enter Tryz.func152,Tryz.ntmps152;go_wp2_with fail;refine HF.o.mono ?_;rintro e w1 ⟨rfl,hb1⟩;have HB1:=acA hb1;clear hb1;go_wp2_with fail;refine(mg.o w1 HB1.o).mono ?_;rintro e w2 ⟨rfl,rfl⟩;go_wp2_with fail;go_ret;rw[HM.o];exact Turn.same HH.o HB1.o rfl
 ·have HM:acB (bC T ls=(bg ls,T)):=by
   have:jL T ls=bg ls:=by unfold jL aQ;rw[if_pos hf,if_pos hf]
   unfold bC;rw[this,if_neg hf];exact rfl
  have hne:(bg ls==0)=false:=by simpa using hf
  have hne2:(bg ls !=0)=true:=by simpa using hf
  clear hf;go_enter Tryz.func152,Tryz.ntmps152;go_wp2_with fail;refine HF.o.mono ?_;rintro e w1 ⟨rfl,hb1⟩;go_wp2_with fail;go_ret;rw[HM.o];exact Turn.same HH.o hb1 rfl
theorem Sv{S:Nat→Prop}(a:Option Addr)(n c:Nat)(ls:List Nm)(w:World)(h:aO g D w p mb ib nb T)(hT:dG T)(hS:aK S w a n (ls.map strOf))(hc:n≤c)(lF:n≤1000000):
  Calls Tryz.prog 79 #[ptr p,.slice a n c] w (Turn g D w p mb (dP T ls).2 (.int .i64 (dP T ls).1)):=by
 have HH:=acA h;have HT:=acA hT;have HS:=acA hS;have HF:=acA (yN (S:=S) a n c ls w hS);have mg:=acA (fun w1 (hb:Below w.heap.size w w1)=>sG a n c ls w1 (h.below hb acC) hT (hS.below hb acC));clear h hT hS;by_cases hf:bg ls=0
 ·have uS:=acA hf;rw[hf]at HF;clear hf;have EH:acB (aQ T ls=aJ T 0 ls):=by unfold aQ;rw[if_neg (by rw[uS.o];simp)];exact rfl
  obtain⟨⟨id,e0⟩,hq⟩:∃q,q=aJ T 0 ls:=⟨_,rfl⟩;have HQ:=acA hq;rw[←hq]at mg EH;clear hq;by_cases he:e0=0
  ·subst he;obtain⟨y,hy⟩:=aaf.1 (qL HQ.o.symm HT.o);have HY:=acA hy;have rY:=HT.o.ids id y hy;have hok:bY.ok id:=jU rY.1 (by omega);have HG:acB (aj id (T.map fun q=>(q.1,ptr (ib q.1)))=some (ptr (ib id))):=by rw[fG,hy];rfl
   have HIT:acB (∀w1,Below w.heap.size w w1→w1.cell? ⟨p,0,none⟩=some (.map (some mb))∧MapAt bY w1 mb (T.map fun q=>(q.1,ptr (ib q.1)))∧w1.cell? ⟨ib id,1,none⟩=some (.int .i64 y.kind)):=fun w1 hb=>by
    have h2:=HH.o.below hb acC;obtain⟨_,c1,c2,_⟩:=(h2.item id y HY.o).cell;exact⟨h2.cell.1,h2.map,c1⟩
   clear hy;by_cases hk:y.kind=2
   ·rw[hk]at HIT;have ZO:=acA hk;clear hk;by_cases h0:id=0
    ·have HM:acB (dP T ls=(1,T)):=by
      have:jR T ls=1:=by
       unfold jR;rw[EH.o,←HQ.o,if_neg (by simp),if_neg (by rw[dM HY.o,ZO.o];simp),if_pos h0]
      unfold dP;rw[this]<;>exact rfl
     have hd0:(id==0)=true:=by simpa using h0
     clear h0;go_enter Tryz.func79,acv;go_wp2_with fail;refine HF.o.mono ?_;rintro e w1 ⟨rfl,hb1⟩;have HB1:=acA hb1;clear hb1;go_wp2_with fail;refine(mg.o w1 HB1.o).mono ?_;rintro e w2 ⟨rfl,rfl⟩;obtain⟨c0,hmap,c1⟩:=HIT.o w1 HB1.o;have jX:=acA hmap;clear hmap;go_wp2_with (first|(at_lookup;refine aY bY rfl _ _ 104 102 rfl Tryz.underlying104 (Tryz.bF _) rfl jX.o id rfl hok ?_;rw[HG.o]));go_ret;rw[HM.o];exact Turn.same HH.o HB1.o rfl
    ·have hd0:(id==0)=false:=by simpa using h0
     have Jr:=acA h0;have Sw:=acA (fun w2 (hb:Below w.heap.size w w2)=>nk (HH.o.below hb acC) HY.o ZO.o);have R6:acB ((bW y).length=y.names.length):=by unfold bW;rw[List.length_map]<;>exact rfl
     clear h0;by_cases hfull:0<y.names.length
     ·have HM:acB (dP T ls=(24,T)):=by
       have hnm:bJ T id=y.names:=by unfold bJ;rw[HY.o]
       have:jR T ls=24:=by
        unfold jR;rw[EH.o,←HQ.o,if_neg (by simp),if_neg (by rw[dM HY.o,ZO.o];simp),if_neg Jr.o,hnm,if_pos hfull]
       unfold dP;rw[this]<;>exact rfl
      have hd:decide ((0:Int)<(y.names.length:Int))=true:=by simp;omega
      have hd2:decide (0<y.names.length)=true:=by simpa using hfull
      go_enter Tryz.func79,acv;go_wp2_with fail;refine HF.o.mono ?_;rintro e w1 ⟨rfl,hb1⟩;have HB1:=acA hb1;clear hb1;go_wp2_with fail;refine(mg.o w1 HB1.o).mono ?_;rintro e w2 ⟨rfl,rfl⟩;obtain⟨c0,hmap,c1⟩:=HIT.o w1 HB1.o;have jX:=acA hmap;clear hmap;obtain⟨y7,hyn⟩:=Sw.o w1 HB1.o;have ZX:=acA hyn;clear hyn;go_wp2_with (first|(at_lookup;refine aY bY rfl _ _ 104 102 rfl Tryz.underlying104 (Tryz.bF _) rfl jX.o id rfl hok ?_;rw[HG.o])|(at_len;refine m_ dZ rfl _ 136 3 rfl aam rfl ZX.o ?_;rw[R6.o]));go_ret;rw[HM.o];exact Turn.same HH.o HB1.o rfl
     ·have HNY:acB (y.names=[]):=by
       have:y.names=[]:=aai (by omega);exact this
      have hn0:y.names.length=0:=by omega
      have yV:=acA hn0;have hp:ls≠[]:=fun e=>by
       have h1:id=0:=aaT Prod.fst (HQ.o.trans (by rw[e]<;>exact(rfl:aJ T 0 []=(0,0))));exact Jr.o h1
      obtain⟨d,x,nm,e1,-,hx,hxk,hn,hmem,-⟩:=dx HQ.o.symm hp;have I9:=acA (jT uS.o _ hmem);have nH:=Sq I9.o;have HM:acB (dP T ls=(0,bS id (aG T d nm))):=by
       have hnm:bJ T id=y.names:=by unfold bJ;rw[HY.o]
       have:jR T ls=0:=by
        unfold jR;rw[EH.o,←HQ.o,if_neg (by simp),if_neg (by rw[dM HY.o,ZO.o];simp),if_neg Jr.o,hnm,if_neg (by omega)]
       unfold dP yI;rw[this,←HQ.o,e1]<;>exact rfl
      have wY:=acA (fun w1 (hb:Below w.heap.size w w1)=>C8 a n c ls w1 (HH.o.below hb acC) HT.o (HS.o.below hb acC) hc lF e1);have HX:=acA hx;have Ba:=acA hxk;have hdi:id≠d:=fun e=>by subst e;rw[HY.o]at hx;cases hx;rw[HNY.o]at hn;cases hn
      have Fu:=acA hdi;have vF:=acA (fun w2 (hb:Below w.heap.size w w2)=>nk (HH.o.below hb acC) hx hxk);clear hp e1 hx hxk hn hmem hdi hfull hn0;go_enter Tryz.func79,acv;go_wp2_with fail;refine HF.o.mono ?_;rintro e w1 ⟨rfl,hb1⟩;have HB1:=acA hb1;clear hb1;go_wp2_with fail;refine(mg.o w1 HB1.o).mono ?_;rintro e w2 ⟨rfl,rfl⟩;obtain⟨c0,hmap,c1⟩:=HIT.o w1 HB1.o;have jX:=acA hmap;clear hmap;obtain⟨y7,hyn⟩:=Sw.o w1 HB1.o;have ZX:=acA hyn;clear hyn;go_wp2_with (first|(at_lookup;refine aY bY rfl _ _ 104 102 rfl Tryz.underlying104 (Tryz.bF _) rfl jX.o id rfl hok ?_;rw[HG.o])|(at_len;refine m_ dZ rfl _ 136 3 rfl aam rfl ZX.o ?_;rw[R6.o,yV.o]));refine(wY.o w1 HB1.o).mono ?_;rintro e w2 ⟨rfl,hb2⟩;have HB2:=acA (HB1.o.trans (hb2.mono HB1.o.size));clear hb2;obtain⟨d7,gy⟩:=vF.o w2 HB2.o;have zZ:=acA gy;have HA2:=acA (HH.o.below HB2.o acC);clear gy;have Ag:acB (∀w3,MapAt dZ w3 (nb d) (bS nm (bW x))→w2.mapTurned w3 (nb d)→(aO g D w3 p mb ib nb (aG T d nm)∧Keeps (fun b=>g b≠ .none) w2 w3)∧w3.cell? ⟨p,0,none⟩=some (.map (some mb))∧MapAt bY w3 mb (T.map fun q=>(q.1,ptr (ib q.1)))):=fun w3 hM WJ=>by
       have h3:=GA HA2.o HX.o Ba.o hM WJ;have hm:=h3.1.map;unfold aG at hm;rw[zQ _ _ _ (fun j=>ptr (ib j))]at hm;exact⟨h3,h3.1.cell.1,hm⟩
      go_wp2_with (first|(at_delete;refine mo dZ rfl _ _ 136 3 rfl aam rfl zZ.o nm rfl nH ?_;intro w3 Rv wJ;obtain⟨hA3,hp3,Fx⟩:=Ag.o w3 Rv wJ;have Sr:=acA hA3;have HM3:=acA Fx;clear hA3 Rv wJ Fx)|(at_delete;refine mo bY rfl _ _ 104 102 rfl Tryz.underlying104 rfl HM3.o id rfl hok ?_;intro w4 xC kV;have z_:=acA xC;have wG:=acA kV;clear xC kV));go_ret;rw[HM.o];have hA3:=Sr.o;have hsz:=kY wG.o;have Lf:aO g D w4 p mb ib nb (bS id (aG T d nm)):=by
       refine hA3.1.del ?_ (by omega) (fun b hb ZK=>gB wG.o b hb ZK);unfold aG;rw[zQ _ _ _ (fun j=>ptr (ib j))];exact z_.o
      have hgm:=HH.o.lW;exact Turn.of rfl Lf (((iB HB2.o).trans hA3.2 (fun _ _ h=>h)).trans ((fJ wG.o).mono fun b _ hb=>by rw[show b=mb from hb,hgm];simp) (fun _ _ h=>h))
   ·have hkk:(y.kind==2)=false:=by simpa using hk
    have HM:acB (dP T ls=(23,T)):=by
     have:jR T ls=23:=by
      unfold jR;rw[EH.o,←HQ.o,if_neg (by simp),if_pos (by rw[dM HY.o];exact hk)]
     unfold dP;rw[this]<;>exact rfl
    go_enter Tryz.func79,acv;go_wp2_with fail;refine HF.o.mono ?_;rintro e w1 ⟨rfl,hb1⟩;have HB1:=acA hb1;clear hb1;go_wp2_with fail;refine(mg.o w1 HB1.o).mono ?_;rintro e w2 ⟨rfl,rfl⟩;obtain⟨c0,hmap,c1⟩:=HIT.o w1 HB1.o;have jX:=acA hmap;clear hmap;go_wp2_with (first|(at_lookup;refine aY bY rfl _ _ 104 102 rfl Tryz.underlying104 (Tryz.bF _) rfl jX.o id rfl hok ?_;rw[HG.o]));go_ret;rw[HM.o];exact Turn.same HH.o HB1.o rfl
  ·have hne:(e0==0)=false:=by simpa using he
   have hne2:(e0 !=0)=true:=by simpa using he
   have HM:acB (dP T ls=(e0,T)):=by
    have:jR T ls=e0:=by
     unfold jR;rw[EH.o,if_pos he]
    unfold dP;rw[this,if_neg he];exact rfl
   clear he;go_enter Tryz.func79,acv;go_wp2_with fail;refine HF.o.mono ?_;rintro e w1 ⟨rfl,hb1⟩;have HB1:=acA hb1;clear hb1;go_wp2_with fail;refine(mg.o w1 HB1.o).mono ?_;rintro e w2 ⟨rfl,rfl⟩;go_wp2_with fail;go_ret;rw[HM.o];exact Turn.same HH.o HB1.o rfl
 ·have HM:acB (dP T ls=(bg ls,T)):=by
   have:jR T ls=bg ls:=by unfold jR aQ;rw[if_pos hf,if_pos hf]
   unfold dP;rw[this,if_neg hf];exact rfl
  have hne:(bg ls==0)=false:=by simpa using hf
  have hne2:(bg ls !=0)=true:=by simpa using hf
  clear hf;go_enter Tryz.func79,acv;go_wp2_with fail;refine HF.o.mono ?_;rintro e w1 ⟨rfl,hb1⟩;go_wp2_with fail;go_ret;rw[HM.o];exact Turn.same HH.o hb1 rfl
end
def maxD(d:Int→Nat)(l:List (Nm×Int)):Nat:=(l.map fun e=>1+d e.2).foldr Nat.max 0
theorem yX(d:Int→Nat):∀{l:List (Nm×Int)} {e:Nm×Int},e∈l→1+d e.2≤maxD d l
 |x::r,e,h=>by
  have e1:maxD d (x::r)=Nat.max (1+d x.2) (maxD d r):=rfl;rw[e1];rcases aay.1 h with rfl|h
  ·exact Nat.le_max_left _ _
  ·exact Nat.le_trans (yX d h) (Nat.le_max_right _ _)
theorem maxD_le(d:Int→Nat){m:Nat}:∀{l:List (Nm×Int)},(∀e∈l,1+d e.2≤m)→maxD d l≤m
 |[],_=>Nat.zero_le _
 |x::r,h=>by
  have e1:maxD d (x::r)=Nat.max (1+d x.2) (maxD d r):=rfl;rw[e1];exact Nat.max_le.2 ⟨h x (by simp),maxD_le d fun e he=>h e (by simp[he])⟩
def jl(T:aL):Nat→Int→Nat
 |0,_=>0
 |n+1,id=>maxD (jl T n) (bJ T id)
def C9(T:aL):Nat→Int→Prop
 |0,id=>bJ T id=[]
 |n+1,id=>∀e∈bJ T id,C9 T n e.2
theorem C9.le{T:aL}:∀{n:Nat} {id:Int},C9 T n id→jl T n id≤n
 |0,_,_=>Nat.le_refl _
 |n+1,id,h=>maxD_le _ fun e he=>by have:=(h e he).le;omega
section
variable{P:Program}{w:World}{ops:Array Oper}{rest:List Oper}{o:Oper}{a:Act}{Q:Exit→Act→World→Prop}
theorem sK(hg:o.guard=none)(m:Operand)(t k e:TypeId)(hop:o.op=Op.range t m)(ht:P.underlying t=some (.map k e))(hm:a.eval m= .map none)
  (h:wpList P ops Q rest (a.put o.dst (.pointer (some ⟨w.heap.size,0,none⟩))) (w.alloc (.mapIter none 0 #[] 0))):wpList P ops Q (o::rest) a w:=by
 refine abR hg fun K' hK'=> ?_;have hrun:(Instr.range t (.map none)).run P w= .ok (.pointer (some ⟨w.heap.size,0,none⟩)) (w.alloc (.mapIter none 0 #[] 0)):=by
  simp[Instr.range,abO ht,Result.andThen]
 unfold Oper.wp;simp[execOp,hop,hm,hrun,Result.andThen];exact hK' _ _ h
theorem uN(hg:o.guard=none)(it:Operand)(hop:o.op=Op.next it false){r:Nat}(hit:a.eval it= .pointer (some ⟨r,0,none⟩))(hr:w.heap[r]? =some (.mapIter none 0 #[] 0))
  (h:wpList P ops Q rest (a.put o.dst (.tuple #[.bool false])) w):wpList P ops Q (o::rest) a w:=by
 refine abR hg fun K' hK'=> ?_;have hrun:(Instr.next (.pointer (some ⟨r,0,none⟩)) false o.type).run P w= .ok (.tuple #[.bool false]) w:=by
  simp only[Instr.next,getObj,abA,Sem.run,hr,Result.andThen];rfl
 unfold Oper.wp;simp[execOp,hop,hit,hrun,Result.andThen];exact hK' _ _ h
end
section
variable{g:Nat→Own}{D:Nat→Prop}{p mb:Nat}{ib nb:Int→Nat}{T:aL}
def xQ(p:Nat)(w:World)(id:Int)(n:Nat):Prop:=Calls Tryz.prog 154 #[ptr p,.int .i64 id] w fun e w'=>e= .returned (.int .i64 n)∧Below w.heap.size w w'
def WS(w:World)(d:Int→Nat)(x:bP)(nbk r:Nat)(v:Value)(wr:World):Prop:=
 ∃(m:Nat) (left:Nm→Bool) (cnt:Nat),v= .int .i64 m∧m≤maxD d x.names∧(∀e∈x.names,left e.1=false→1+d e.2≤m)∧gQ dZ wr nbk r (bW x) left cnt∧Below w.heap.size w wr
theorem Fy(id:Int)(x:bP)(d:Int→Nat)(w:World)(h:aO g D w p mb ib nb T)(hT:dG T)(hx:aj id T=some x)(hd:∀e∈x.names,d e.2≤64)
  (hc:∀e∈x.names,∀w1,Below w.heap.size w w1→xQ p w1 e.2 (d e.2)):xQ p w id (maxD d x.names):=by
 obtain⟨hc0,hpw,hmw⟩:=h.cell;have rY:=hT.ids id x hx;have hok:bY.ok id:=jU rY.1 (by omega);obtain⟨c0,c1,c2,c3,c4,c5,c7,hiw⟩:=(h.item id x hx).cell;have hget:aj id (T.map fun q=>(q.1,ptr (ib q.1)))=some (ptr (ib id)):=by rw[fG,hx];rfl
 have HG:=acA hget;have jX:=acA h.map;have HC:=acA hc;have HD:=acA hd;have O1:=acA (hT.each id x hx);by_cases hk:x.kind=2
 ·have e2:eY x (nb id)= .map (some (nb id)):=if_pos hk;rw[e2]at c7;have HN:=acA ((h.item id x hx).names hk);have hbw:=HN.o.lt;clear hget hc hd h hk e2 hT;unfold xQ;go_enter Tryz.func154,Tryz.ntmps154;go_wp2_with (first|(at_lookup;refine aY bY rfl _ _ 104 102 rfl Tryz.underlying104 (Tryz.bF _) rfl jX.o id rfl hok ?_;rw[HG.o])|(at_range;refine tL dZ rfl _ 136 3 rfl aam rfl HN.o ?_;intro w0 hR0 hB0 hs0))
  go_frame
  go_loopw [5,7] (fun v _ wr=>WS w d x (nb id) w.heap.size v wr) (fun _ _ wr=>wr.rangeLeft (nb id) w.heap.size)
  case atStart=>
   refine⟨0,_,_,rfl,Nat.zero_le _,fun e he hl=> ?_,hR0,hB0⟩;simp only[fP]at hl;rw[cK CF O1.o.sorted he]at hl;cases hl
  case round=>
   obtain⟨m,left,cnt,rfl,hm,hsee,hR,hB⟩:=hrel;have HB:=acA hB;have HSEE:=acA hsee;have HR:=acA hR;have hmd:maxD d x.names≤65:=maxD_le d fun e he=>by have:=HD.o e he;omega
   clear hsee hR hB;go_wp2_with (first|(at_next;refine vC dZ rfl _ rfl rfl HR.o ?_ ?_))
   ·intro hdone;have Cc:=acA hdone;clear hdone;go_wp2;go_ret;refine⟨dX ?_,HB.o⟩;have:maxD d x.names≤m:=maxD_le d fun e he=>HSEE.o e he (Cc.o _);omega
   ·intro k v w3 cnt1 ZY hleft hg2 WT hlt hK1 hs1 hen;rw[fP]at hg2;cases hk2:aj k x.names with
    |none=>rw[hk2]at hg2;cases hg2
    |some j=>
     rw[hk2]at hg2;cases hg2;have hmem:=dU hk2;have hB3:Below w.heap.size w w3:=⟨hK1.os.trans HB.o.os,hK1.tape.trans HB.o.tape,hK1.output.trans HB.o.output,by rw[hs1];exact HB.o.size,fun b hb=>(hK1.block b (by have:=HB.o.size;omega) (by omega)).trans (HB.o.block b hb)⟩;have HCH:=acA (HC.o _ hmem w3 hB3);have hdj:=HD.o _ hmem;have hjm:=yX d hmem;have HB3:=acA hB3;have HR1:=acA WT;have Je:=acA hk2;have Ah:=acA hlt;simp only at hdj hjm;have e1:IntKind.i64.wrap (1+(d j:Int))=1+(d j:Int):=aak _ (by omega);have hrw:=HR.o.lt;clear hk2 hmem WT hB3 hlt hK1;show wpList _ _ _ _ _ _;have e3:dZ.val k= .string (strOf k):=rfl;rw[e3]at hen⊢;clear e3;have HCH2:=acA (show Calls Tryz.prog 154 #[ptr p,.int .i64 j] w3 _ from HCH.o);go_wp2_with fail;refine HCH2.o.mono ?_;rintro e w4 ⟨rfl,hb4⟩;have dY:=acA hb4;clear hb4;go_wp2_with fail;go_roundw
     case rel=>
      have hs4:=dY.o.size;refine⟨Nat.max m (1+d j),_,cnt1,?_,Nat.max_le.2 ⟨hm,hjm⟩,fun e he hl=> ?_,HR1.o.kept (dY.o.block _ HR1.o.lt.1) (dY.o.block _ HR1.o.lt.2.1),HB3.o.trans (dY.o.mono HB3.o.size)⟩
      ·congr 1;show max (m:Int) (1+(d j:Int))=((Nat.max m (1+d j):Nat):Int);rcases Nat.le_total m (1+d j)with h0|h0
       ·rw[show Nat.max m (1+d j)=1+d j from Nat.max_eq_right h0];omega
       ·rw[show Nat.max m (1+d j)=m from Nat.max_eq_left h0];omega
      ·by_cases hek:e.1=k
       ·have h1:=cK CF O1.o.sorted he;rw[hek,Je.o]at h1;have h2:j=e.2:=aaK h1;rw[←h2];exact Nat.le_max_right _ _
       ·refine Nat.le_trans (HSEE.o e he ?_) (Nat.le_max_left _ _);simpa[hek]using hl
     case measure=>
      have h4:gQ dZ w4 (nb id) w.heap.size (bW x) _ cnt1:=HR1.o.kept (dY.o.block _ HR1.o.lt.1) (dY.o.block _ HR1.o.lt.2.1);rw[h4.measure,HR.o.measure];exact Ah.o
 ·have e2:eY x (nb id)= .map none:=if_neg hk;rw[e2]at c7;have hnil:x.names=[]:=O1.o.file (O1.o.kind.resolve_right hk);have Sy:=acA hnil;clear hget hc hd h hk e2 hT hnil;unfold xQ;rw[Sy.o];go_enter Tryz.func154,Tryz.ntmps154;go_wp2_with (first|(at_lookup;refine aY bY rfl _ _ 104 102 rfl Tryz.underlying104 (Tryz.bF _) rfl jX.o id rfl hok ?_;rw[HG.o])|(at_range;refine sK rfl _ 136 9 3 rfl aam rfl ?_))
  go_frame
  go_loopw [5,7] (fun v _ wr=>v= .int .i64 0∧wr=w.alloc (.mapIter none 0 #[] 0)) (fun _ _ wr=>0)
  case atStart=>exact⟨rfl,rfl⟩
  case round=>
   obtain⟨rfl,rfl⟩:=hrel;go_wp2_with (first|(at_next;refine uN rfl _ rfl rfl (MapKept.heap_alloc w _).1 ?_));go_ret;exact⟨rfl,wall w _⟩
theorem Js(hT:dG T):∀(n:Nat) (id:Int) (w:World),aO g D w p mb ib nb T→(aj id T).isSome=true→C9 T n id→n≤64→xQ p w id (jl T n id)
 |0,id,w,h,hi,hs,hn=>by
  obtain⟨x,hx⟩:=aaf.1 hi;have e:x.names=[]:=by have h1:bJ T id=[]:=hs;unfold bJ at h1;rw[hx]at h1;exact h1
  have:=Fy id x (fun _=>0) w h hT hx (fun _ _=>Nat.zero_le _) (fun y he=>by rw[e]at he;cases he);rw[e]at this;exact this
 |n+1,id,w,h,hi,hs,hn=>by
  obtain⟨x,hx⟩:=aaf.1 hi;have e:bJ T id=x.names:=by unfold bJ;rw[hx]
  have hs':∀e∈x.names,C9 T n e.2:=fun y hy=>hs y (by rw[e];exact hy);have:=Fy id x (jl T n) w h hT hx (fun y hy=>Nat.le_trans (hs' y hy).le (by omega)) (fun y hy w1 hb=>
   Js hT n y.2 w1 (h.below hb acC) (hT.leads id x hx y hy).1 (hs' y hy) (by omega))
  rw[←e]at this;exact this
end
structure iw(T:aL)(dep:Int→Nat):Prop where
 zero:dep 0=0
 up:∀d x,aj d T=some x→∀e∈x.names,dep d<8∧(dL T e.2=2→dep e.2=dep d+1)
theorem fU{T:aL}{id:Int}{x:bP}(hx:aj id T=some x):bJ T id=x.names:=by unfold bJ;rw[hx]
theorem C_{T:aL}{id:Int}{e:Nm×Int}(h:e∈bJ T id):∃x,aj id T=some x∧e∈x.names:=by
 unfold bJ at h;cases hx:aj id T with
 |none=>rw[hx]at h;cases h
 |some x=>rw[hx]at h;exact⟨x,rfl,h⟩
theorem Fz{T:aL}(hT:dG T){id:Int}{x:bP}(hx:aj id T=some x){e:Nm×Int}(he:e∈x.names):x.kind=2:=by
 rcases (hT.each id x hx).kind with h|h
 ·rw[(hT.each id x hx).file h]at he;cases he
 ·exact h
theorem Sz{T:aL}{id:Int}(h:bJ T id=[]):∀n,C9 T n id
 |0=>h
 |n+1=>fun e he=>by rw[h]at he;cases he
theorem iw.Lv{T:aL}{dep:Int→Nat}(h:iw T dep)(hT:dG T):∀(n:Nat) (d:Int),8≤n+dep d→C9 T n d
 |0,d,hd=>by
  show bJ T d=[];cases hn:bJ T d with
  |nil=>rfl
  |cons e r=>
   obtain⟨x,hx,he⟩:=C_ (T:=T) (id:=d) (e:=e) (by rw[hn];simp);have:=(h.up d x hx e he).1;omega
 |n+1,d,hd=>fun e he=>by
  obtain⟨x,hx,he⟩:=C_ he;by_cases hk:dL T e.2=2
  ·have:=(h.up d x hx e he).2 hk;exact h.Lv hT n e.2 (by omega)
  ·refine Sz ?_ n;obtain⟨y,hy⟩:=aaf.1 (hT.leads d x hx e he).1;rw[dM hy]at hk;rw[fU hy];exact(hT.each _ y hy).file ((hT.each _ y hy).kind.resolve_right hk)
theorem iw.shal8{T:aL}{dep:Int→Nat}(h:iw T dep)(hT:dG T)(d:Int):C9 T 8 d:=h.Lv hT 8 d (by omega)
theorem wK{T:aL}{a d:Int}{n:Nm}{r:List Nm}(h:aJ T a (n::r)=(d,0)):∃x k,aj a T=some x∧x.kind=2∧aj n x.names=some k∧aJ T k r=(d,0):=by
 simp only[aJ]at h;cases hx:aj a T with
 |none=>rw[hx]at h;cases h
 |some x=>
  rw[hx]at h;simp only at h;by_cases hk:x.kind=2
  ·rw[if_pos hk]at h;cases hn:aj n x.names with
   |none=>rw[hn]at h;cases h
   |some k=>rw[hn]at h;exact⟨x,k,rfl,hk,hn,h⟩
  ·rw[if_neg hk]at h;cases h
theorem vJ{T:aL}{dep:Int→Nat}(h:iw T dep):∀(p:List Nm) (a d:Int),aJ T a p=(d,0)→dL T d=2→dep d=dep a+p.length
 |[],a,d,hl,_=>by
  have:a=d:=aaT Prod.fst hl;subst this;rfl
 |n::r,a,d,hl,hd=>by
  obtain⟨x,k,hx,hk,hn,hl⟩:=wK hl;have hkk:dL T k=2:=by
   cases r with
   |nil=>
    have:k=d:=aaT Prod.fst hl;rw[this];exact hd
   |cons m s=>
    obtain⟨y,j,hy,hyk,_⟩:=wK hl;rw[dM hy];exact hyk
  have h1:=(h.up a x hx _ (dU hn)).2 hkk;have h2:=vJ h r k d hl hd;simp only at h1;rw[List.length_cons];omega
theorem yY{T:aL}(hT:dG T){a b k:Int}{x y:bP}{n m:Nm}(hx:aj a T=some x)(hn:aj n x.names=some k)(hy:aj b T=some y)(hm:aj m y.names=some k)(hk:dL T k=2):a=b∧n=m:=by
 obtain⟨z,hz,hzk⟩:=mR hk;have h0:=(hT.leads a x hx _ (dU hn)).2;have hc:=hT.counts k z hz h0;rw[((hT.each k z hz).dir hzk).1]at hc;have h1:=sJ hT.toBJ hx hn k;rw[if_pos rfl]at h1;have h2:jh (aG T a n) k=0:=by omega
 by_cases hab:b=a
 ·subst hab;rw[hx]at hy;cases hy;refine⟨rfl,?_⟩;by_cases hnm:m=n
  ·exact hnm.symm
  ·have hg:aj b (aG T b n)=some {x with names:=bS n x.names}:=by unfold aG;rw[aW,if_pos rfl,hx];rfl
   have hm':aj m (bS n x.names)=some k:=by rw[pE hnm];exact hm
   exact absurd rfl (B_ h2 hg _ (dU hm'))
 ·have hg:aj b (aG T a n)=some y:=by unfold aG;rw[aW,if_neg hab];exact hy
  exact absurd rfl (B_ h2 hg _ (dU hm))
theorem Da{T:aL}(hT:dG T):∀(l:Nat) (p q:List Nm) (d:Int),p.length≤l→aJ T 0 p=(d,0)→aJ T 0 q=(d,0)→dL T d=2→p=q
 |l,p,q,d,hl,hp,hq,hd=>by
  by_cases h1:p=[]
  ·subst h1;by_cases h2:q=[]
   ·exact h2.symm
   ·obtain⟨d',x,n,-,-,hx,_,hn,_⟩:=dx hq h2;have h0:(0:Int)=d:=aaT Prod.fst hp;have:=(hT.leads d' x hx _ (dU hn)).2;exact absurd h0.symm this
  ·obtain⟨d1,x,n,-,hl1,hx,hxk,hn,_,e1⟩:=dx hp h1;by_cases h2:q=[]
   ·subst h2;have h0:(0:Int)=d:=aaT Prod.fst hq;have:=(hT.leads d1 x hx _ (dU hn)).2;exact absurd h0.symm this
   ·obtain⟨d2,y,m,-,hl2,hy,_,hm,_,e2⟩:=dx hq h2;obtain⟨hab,hnm⟩:=yY hT hx hn hy hm hd;subst hab hnm;have hlen:p.dropLast.length<p.length:=by
     rw[ace];have:p.length≠0:=fun e=>h1 (aai e);omega
    match l,hl with
    |0,hl=>exact absurd (aai (by omega)) h1
    |l+1,hl=>
     have:=Da hT l p.dropLast q.dropLast d1 (by omega) hl1 hl2 ((dM hx).trans hxk);rw[e1,e2,this]
def Lx(T:aL)(id d:Int):Prop:=∃q,aJ T id q=(d,0)
theorem NK{T:aL}(hT:dG T):∀(q:List Nm) (id d:Int) (x:bP) (e:Nm×Int) (n:Nat),aJ T id q=(d,0)→aj d T=some x→e∈x.names→q.length<n→q.length+1≤jl T n id
 |[],id,d,x,e,n+1,hl,hx,he,hn=>by
  have:id=d:=aaT Prod.fst hl;subst this;have:1+jl T n e.2≤maxD (jl T n) (bJ T id):=yX _ (by rw[fU hx];exact he);show 0+1≤maxD (jl T n) (bJ T id);omega
 |m::r,id,d,x,e,n+1,hl,hx,he,hn=>by
  obtain⟨y,k,hy,hyk,hm,hl⟩:=wK hl;rw[List.length_cons]at hn;have h1:=NK hT r k d x e n hl hx he (by omega);have:1+jl T n k≤maxD (jl T n) (bJ T id):=yX (jl T n) (e:=(m,k)) (by rw[fU hy];exact dU hm);show(m::r).length+1≤maxD (jl T n) (bJ T id);rw[List.length_cons];omega
 |q,_,_,_,_,0,_,_,_,hn=>by omega
def kH(p q:List Nm):Bool:=decide (p.take q.length=q)
def jN(T:aL)(p tq:List Nm):Int:=
 if kE p tq≠0 then kE p tq else
 if (aJ T 0 p).2≠0 then(aJ T 0 p).2 else
 if (aJ T 0 p).1=0 then 1 else
 if (aH T tq).2.2≠0 then(aH T tq).2.2 else
 if dL T (aJ T 0 p).1=2∧kH tq p=true then 1 else
 match aj (aH T tq).2.1 (bJ T (aH T tq).1)with
 |some k=>if k=(aJ T 0 p).1 then 0 else 21
 |none=>if 8<tq.length+jl T 8 (aJ T 0 p).1 then 3 else 0
def sM(T:aL)(p tq:List Nm):aL:=setName (aG T (aH T p).1 (aH T p).2.1) (aH T tq).1 (aH T tq).2.1 (aJ T 0 p).1
def bf(T:aL)(p tq:List Nm):Int×aL:=
 (jN T p tq,if jN T p tq=0∧(aj (aH T tq).2.1 (bJ T (aH T tq).1)).isSome=false then sM T p tq else T)
theorem dG.move{T:aL}(h:dG T){d1 d2 id:Int}{x1 x2:bP}{n1 n2:Nm}(hx1:aj d1 T=some x1)(hk1:x1.kind=2)(hn1:aj n1 x1.names=some id)(hx2:aj d2 T=some x2)(hk2:x2.kind=2)(hg2:dO n2=true)(hn2:aj n2 x2.names=none):
  dG (setName (aG T d1 n1) d2 n2 id):=by
 have hid:=h.leads d1 x1 hx1 _ (dU hn1);have hP:=h.toBJ.cut (n:=n1) hx1 hk1;obtain⟨x3,hx3,hk3,SA⟩:∃x3,aj d2 (aG T d1 n1)=some x3∧x3.kind=2∧aj n2 x3.names=none:=by
  unfold aG;rw[aW];by_cases hd:d2=d1
  ·subst hd;rw[hx1]at hx2;cases hx2;rw[if_pos rfl,hx1];refine⟨_,rfl,hk1,?_⟩;show aj n2 (bS n1 x1.names)=none;rw[fF];split
   ·rfl
   ·exact hn2
  ·rw[if_neg hd];exact⟨x2,hx2,hk2,hn2⟩
 have hid3:(aj id (aG T d1 n1)).isSome=true:=by
  unfold aG;rw[aW];split<;>simp[hid.1]
 refine⟨hP.set hx3 hk3 hg2 ⟨hid3,hid.2⟩,fun j z hz hj=> ?_⟩;have h1:=sJ h.toBJ hx1 hn1 j;have h2:=nX hP.sorted (fun x=>{x with names:=dW bytesBefore n2 id x.names}) hx3 j;have h3:=Lc (id:=id) SA j;have e:jh (setName (aG T d1 n1) d2 n2 id) j=jh T j:=by
  unfold setName;omega
 rw[e];unfold setName at hz;rw[aW]at hz;obtain⟨z1,hz1,hl1⟩:∃z1,aj j (aG T d1 n1)=some z1∧z.links=z1.links:=by
  by_cases hjd:j=d2
  ·rw[if_pos hjd]at hz;cases hq:aj j (aG T d1 n1)with
   |none=>rw[hq]at hz;cases hz
   |some z1=>
    rw[hq]at hz;simp only[aat,aac]at hz;exact⟨z1,rfl,by rw[←hz]⟩
  ·rw[if_neg hjd]at hz;exact⟨z,hz,rfl⟩
 obtain⟨z2,hz2,hl2,_⟩:=Gx hz1;rw[hl1,hl2];exact h.counts j z2 hz2 hj
theorem Jt{T:aL}(hT:dG T){id a k:Int}{x:bP}{n:Nm}(hx:aj a T=some x)(hn:aj n x.names=some k)(hk:dL T k=2)(hki:k≠id):Lx T id k↔Lx T id a:=by
 constructor
 ·rintro ⟨q,hq⟩;rcases List.eq_nil_or_concat q with rfl|⟨r,m,rfl⟩
  ·exact absurd (aaT Prod.fst hq).symm hki
  ·rw[List.concat_eq_append,lK]at hq;by_cases he:(aJ T id r).2=0
   ·rw[if_pos he]at hq;obtain⟨y,j,hy,hyk,hm,hl⟩:=wK hq;have:j=k:=aaT Prod.fst hl;subst this;obtain⟨hab,_⟩:=yY hT hx hn hy hm hk;exact⟨r,aaO hab.symm he⟩
   ·rw[if_neg he]at hq;rw[hq]at he;exact absurd rfl he
 ·rintro ⟨q,hq⟩;refine⟨q++[n],?_⟩;rw[lK,hq];simp only[if_pos];have:=Fz hT hx (dU hn);simp only[aJ,hx,if_pos this,hn]
theorem Db{T:aL}{d1 d2 id:Int}{n1 n2:Nm}{a:Int}{x:bP}(h:aj a (setName (aG T d1 n1) d2 n2 id)=some x):∃y,aj a T=some y∧x.kind=y.kind∧∀e∈x.names,(e∈y.names∧¬(a=d1∧e.1=n1))∨(a=d2∧e=(n2,id)):=by
 obtain⟨z,hz,hk,hc⟩:∃z,aj a (aG T d1 n1)=some z∧x.kind=z.kind∧∀e∈x.names,e∈z.names∨(a=d2∧e=(n2,id)):=by
  unfold setName at h;rw[aW]at h;by_cases hd:a=d2
  ·rw[if_pos hd]at h;cases hz:aj a (aG T d1 n1)with
   |none=>rw[hz]at h;cases h
   |some z=>
    rw[hz]at h;simp only[aat,aac]at h;refine⟨z,rfl,by rw[←h],fun e he=> ?_⟩;rw[←h]at he;rcases (qH bytesBefore).1 he with h2|h2
    ·exact .inr ⟨hd,h2⟩
    ·exact .inl (aaH.1 h2).1
  ·rw[if_neg hd]at h;exact⟨x,h,rfl,fun e he=> .inl he⟩
 unfold aG at hz;rw[aW]at hz;by_cases hd:a=d1
 ·rw[if_pos hd]at hz;cases hy:aj a T with
  |none=>rw[hy]at hz;cases hz
  |some y=>
   rw[hy]at hz;simp only[aat,aac]at hz;refine⟨y,rfl,by rw[hk,←hz],fun e he=> ?_⟩;rcases hc e he with h1|h1
   ·rw[←hz]at h1;have h2:=aaH.1 h1;refine .inl ⟨h2.1,fun h3=> ?_⟩;have:=h2.2;simp[h3.2]at this
   ·exact .inr h1
 ·rw[if_neg hd]at hz;refine⟨z,hz,hk,fun e he=> ?_⟩;rcases hc e he with h1|h1
  ·exact .inl ⟨h1,fun h=>hd h.1⟩
  ·exact .inr h1
theorem Ai{T:aL}{d:Int}{f:bP→bP}(hf:∀x,(f x).kind=x.kind)(k:Int):dL (bq d f T) k=dL T k:=by
 unfold dL;rw[aW];by_cases h:k=d
 ·rw[if_pos h];cases aj k T with
  |none=>rfl
  |some y=>exact hf y
 ·rw[if_neg h]
theorem FB{T:aL}{d1 d2 id:Int}{n1 n2:Nm}(k:Int):dL (setName (aG T d1 n1) d2 n2 id) k=dL T k:=by
 unfold setName aG;exact(Ai (fun _=>by exact rfl) k).trans (Ai (fun _=>by exact rfl) k)
open Classical in
theorem iw.move{T:aL}{dep:Int→Nat}(h:iw T dep)(hT:dG T){p tq:List Nm}{id dt:Int}{nt:Nm}(hp:aJ T 0 p=(id,0))(h0:id≠0)(hto:aH T tq=(dt,nt,0))(hf:tq.length≤8)(hw:dL T id=2→kH tq p=false∧tq.length+jl T 8 id≤8):
  ∃Z0,iw (setName (aG T (aH T p).1 (aH T p).2.1) dt nt id) Z0:=by
 have hpn:p≠[]:=fun e=>by subst e;exact h0 (aaT Prod.fst hp).symm
 obtain⟨d1,x1,n1,e1,hl1,hx1,hk1,hn1,_,ep⟩:=dx hp hpn;rw[e1];obtain⟨hln,hlt,hkt⟩:tq≠[]∧aJ T 0 tq.dropLast=(dt,0)∧dL T dt=2:=by
  unfold aH at hto;by_cases ht0:tq=[]
  ·rw[if_pos ht0]at hto;cases hto
  ·rw[if_neg ht0]at hto;by_cases ht1:(aJ T 0 tq.dropLast).2≠0
   ·rw[if_pos ht1]at hto;exact absurd (aaT (·.2.2) hto) ht1
   ·rw[if_neg ht1]at hto;by_cases ht2:dL T (aJ T 0 tq.dropLast).1=2
    ·rw[if_pos ht2]at hto;have h3:(aJ T 0 tq.dropLast).1=dt:=aaT Prod.fst hto;exact⟨ht0,aaO h3 (by simpa using ht1),h3▸ht2⟩
    ·rw[if_neg ht2]at hto;cases hto
 have hdt:=vJ h _ 0 dt hlt hkt;rw[h.zero,ace]at hdt;have htl:tq.length≠0:=fun e=>hln (aai e);by_cases hk:dL T id=2
 ·obtain⟨hw1,hw2⟩:=hw hk;have hdid:=vJ h p 0 id hp hk;rw[h.zero]at hdid;have hnt:¬Lx T id dt:=by
   rintro ⟨q,hq⟩;have h3:aJ T 0 (p++q)=(dt,0):=by rw[lK,hp];simp only[if_pos];exact hq
   have h4:=Da hT _ _ _ dt acC hlt h3 hkt;have h5:tq.take p.length=p:=by
    have h6:tq.dropLast.take p.length=p:=by rw[h4,List.take_left]
    have h7:p.length≤tq.length-1:=by
     have:=aaT List.length h4;rw[ace,List.length_append]at this;omega
    rw[List.dropLast_eq_take,List.take_take,Nat.min_eq_left h7]at h6;exact h6
   unfold kH at hw1;rw[h5]at hw1;simp at hw1
  refine⟨fun d=>if Lx T id d then dep d+tq.length-p.length else dep d,?_,fun d x hx e he=> ?_⟩
  ·have:¬Lx T id 0:=by
    rintro ⟨q,hq⟩;have h3:aJ T 0 (p++q)=(0,0):=by rw[lK,hp];simp only[if_pos];exact hq
    have h4:=Da hT 0 [] _ 0 acC rfl h3 hT.root;have:=aaT List.length h4;rw[List.length_append]at this;exact hpn (aai (by simp at this;omega))
   simp only[if_neg this,h.zero]
  ·obtain⟨y,hy,hxy,hnm⟩:=Db hx;rw[FB];rcases hnm e he with⟨hey,hne⟩|⟨hd,hee⟩
   ·have hup:=h.up d y hy e hey;have hyk:=Fz hT hy hey;have hn:=cK CF (hT.each d y hy).sorted hey;by_cases hD:Lx T id d
    ·obtain⟨q,hq⟩:=hD;have h3:=vJ h q id d hq ((dM hy).trans hyk);have hq8:q.length<8:=by have:=hup.1;omega
     have h4:=NK hT q id d y e 8 hq hy hey hq8;simp only[if_pos (show Lx T id d from⟨q,hq⟩)];refine⟨by omega,fun hek=> ?_⟩;have hei:e.2≠id:=fun h5=>by
      obtain⟨h6,h7⟩:=yY hT hx1 hn1 hy (by rw[←h5];exact hn) hk;exact hne ⟨h6.symm,h7.symm⟩
     have:=hup.2 hek;rw[if_pos ((Jt hT hy hn hek hei).2 ⟨q,hq⟩)];omega
    ·simp only[if_neg hD];refine⟨hup.1,fun hek=> ?_⟩;have hei:e.2≠id:=fun h5=>by
      obtain⟨h6,h7⟩:=yY hT hx1 hn1 hy (by rw[←h5];exact hn) hk;exact hne ⟨h6.symm,h7.symm⟩
     rw[if_neg (fun h6=>hD ((Jt hT hy hn hek hei).1 h6))];exact hup.2 hek
   ·subst hd hee;simp only[if_neg hnt];refine⟨by omega,fun _=> ?_⟩;rw[if_pos ⟨[],rfl⟩];omega
 ·refine⟨dep,h.zero,fun d x hx e he=> ?_⟩;obtain⟨y,hy,hxy,hnm⟩:=Db hx;rw[FB];rcases hnm e he with⟨hey,_⟩|⟨hd,hee⟩
  ·exact h.up d y hy e hey
  ·subst hd hee;exact⟨by omega,fun h3=>absurd h3 hk⟩
end Go.Proofs.YtjnhnlabpccgjaaGreatDoor
