/- tree -/
import Derived.Test.YtjnhnlabpccgjaaGreatDoorM11
set_option maxRecDepth 100000
set_option maxHeartbeats 64000000
set_option linter.all false
namespace Go.Proofs.YtjnhnlabpccgjaaGreatDoor
open Go.ChangeShapes Go.WideShapes Go.ChangeAt Go.RowKit
section
variable{g:Nat→Own}{D:Nat→Prop}{p mb:Nat}{ib nb:Int→Nat}{T:aL}
theorem dM{id:Int}{x:bP}(hx:aj id T=some x):dL T id=x.kind:=by unfold dL;rw[hx]
theorem dG.link(h:dG T){d id:Int}{x y:bP}{n:Nm}(hx:aj d T=some x)(hxk:x.kind=2)(hn:dO n=true)(hnn:aj n x.names=none)(hy:aj id T=some y)(hyk:y.kind≠2)(hl:y.links<64)(h0:id≠0):
  dG (Go.Proofs.YtjnhnlabpccgjaaGreatDoor.bq id (fun x=>{x with links:=x.links+1}) (setName T d n id)):=by
 have hdi:id≠d:=fun e=>by subst e;rw[hx]at hy;cases hy;exact hyk hxk
 have hP:=h.toBJ.set (n:=n) (id:=id) hx hxk hn ⟨by rw[hy];rfl,h0⟩;have hy1:aj id (setName T d n id)=some y:=by unfold setName;rw[aW,if_neg hdi];exact hy
 have hoy:=h.each id y hy;have hk1:y.kind=1:=hoy.kind.resolve_right hyk;have hsame:cn id {y with links:=y.links+1}=cn id y:=rfl;refine⟨hP.bq (f:=fun x=>{x with links:=x.links+1}) hy1 ⟨hoy.kind,hoy.file,fun h=>absurd h hyk,fun h=> ?_,hoy.sorted,hoy.good,hoy.size,?_,hoy.aA⟩ rfl (hP.leads id y hy1),fun j z hz hj=> ?_⟩
 ·have:=hoy.links;have h2:y.links+1=0:=h;omega
 ·have:=hoy.links;simp only;omega
 ·have h1:=nX hP.sorted (fun x=>{x with links:=x.links+1}) hy1 j;have h1':cn j {y with links:=y.links+1}=cn j y:=rfl;have h2:=nX h.sorted (fun x=>{x with names:=dW bytesBefore n id x.names}) hx j;have h3:=Lc (id:=id) hnn j;have e:jh (Go.Proofs.YtjnhnlabpccgjaaGreatDoor.bq id (fun x=>{x with links:=x.links+1}) (setName T d n id)) j=jh T j+if id=j then 1 else 0:=by
   unfold setName at h1⊢;rw[h1']at h1;omega
  rw[e];rw[aW]at hz;by_cases hji:j=id
  ·subst hji;rw[if_pos rfl,hy1]at hz;simp only[aat,aac]at hz;rw[←hz,if_pos rfl];have:=h.counts j y hy hj;simp only;omega
  ·rw[if_neg hji]at hz;rw[if_neg (abw hji)];unfold setName at hz;rw[aW]at hz;by_cases hjd:j=d
   ·subst hjd;rw[if_pos rfl,hx]at hz;simp only[aat,aac]at hz;have:=h.counts j x hx hj;rw[←hz];simp only;omega
   ·rw[if_neg hjd]at hz;have:=h.counts j z hz hj;omega
theorem qL{p:List Nm}{id:Int}(h:aJ T 0 p=(id,0))(hT:dG T):(aj id T).isSome=true:=by
 have:=gL hT p 0 (gu hT) (by rw[h]);rw[h]at this;exact this
theorem WI{S S':Nat→Prop}(a:Option Addr)(n c:Nat)(ls:List Nm)(a':Option Addr)(n' c':Nat)(ls':List Nm)(w:World)(h:aO g D w p mb ib nb T)(hT:dG T)(hS:aK S w a n (ls.map strOf))(hS':aK S' w a' n' (ls'.map strOf))(hc':n'≤c')(lF:n'≤1000000):
  Calls Tryz.prog 77 #[ptr p,.slice a n c,.slice a' n' c'] w (Turn g D w p mb (fM T ls ls').2 (.int .i64 (fM T ls ls').1)):=by
 have HH:=acA h;have HT:=acA hT;have HF:=acA (Ja a n c ls a' n' c' ls' w hS hS');have mg:=acA (fun w1 (hb:Below w.heap.size w w1)=>sG a n c ls w1 (h.below hb acC) hT (hS.below hb acC));have wY:=acA (fun w1 (hb:Below w.heap.size w w1)=>wF a' n' c' ls' w1 (h.below hb acC) hT (hS'.below hb acC) hc' lF);clear h hT hS hS';by_cases hf:kE ls ls'=0
 ·have uS:=acA hf;rw[hf]at HF;clear hf;obtain⟨⟨id,e0⟩,hq⟩:∃q,q=aJ T 0 ls:=⟨_,rfl⟩;have HQ:=acA hq;rw[←hq]at mg;clear hq;by_cases he:e0=0
  ·subst he;obtain⟨y,hy⟩:=aaf.1 (qL HQ.o.symm HT.o);have HY:=acA hy;have rY:=HT.o.ids id y hy;have hok:bY.ok id:=jU rY.1 (by omega);have HG:acB (aj id (T.map fun q=>(q.1,ptr (ib q.1)))=some (ptr (ib id))):=by rw[fG,hy];rfl
   have HIT:acB (∀w1,Below w.heap.size w w1→w1.cell? ⟨p,0,none⟩=some (.map (some mb))∧MapAt bY w1 mb (T.map fun q=>(q.1,ptr (ib q.1)))∧w1.cell? ⟨ib id,1,none⟩=some (.int .i64 y.kind)∧w1.cell? ⟨ib id,2,none⟩=some (.int .i64 y.links)):=fun w1 hb=>by
    have h2:=HH.o.below hb acC;obtain⟨_,c1,c2,_⟩:=(h2.item id y HY.o).cell;exact⟨h2.cell.1,h2.map,c1,c2⟩
   clear hy;by_cases hk:y.kind=2
   ·have HM:acB (fM T ls ls'=(22,T)):=by
     have:ni T ls ls'=22:=by
      unfold ni;rw[if_neg (by rw[uS.o];simp),←HQ.o,if_neg (by simp),if_pos ((dM HY.o).trans hk)]
     unfold fM;rw[this,if_neg (by decide)];exact rfl
    go_enter aci,ab5;go_wp2_with fail;refine HF.o.mono ?_;rintro e w1 ⟨rfl,hb1⟩;have HB1:=acA hb1;clear hb1;go_wp2_with fail;refine(mg.o w1 HB1.o).mono ?_;rintro e w2 ⟨rfl,rfl⟩;obtain⟨c0,hmap,c1,c2⟩:=HIT.o w1 HB1.o;rw[hk]at c1;have jX:=acA hmap;clear hmap;go_wp2_with (first|(at_lookup;refine aY bY rfl _ _ 104 102 rfl Tryz.underlying104 (Tryz.bF _) rfl jX.o id rfl hok ?_;rw[HG.o]));go_ret;rw[HM.o];exact Turn.same HH.o HB1.o rfl
   ·have hkk:(y.kind==2)=false:=by simpa using hk
    by_cases hp:(aH T ls').2.2=0
    ·obtain⟨x,hx,hxk,hnm⟩:=je HT.o hp;have hgn:dO (aH T ls').2.1=true:=by
      have:bg ls'=0:=by
       have:=uS.o;unfold kE at this;split at this
       ·rename_i h1;exact absurd this h1
       ·exact this
      exact jT this _ hnm
     obtain⟨⟨d,nm,z⟩,hq⟩:∃q,q=aH T ls':=⟨_,rfl⟩;unfold qJ at wY;rw[←hq]at hp hx hnm hgn wY;obtain rfl:z=0:=hp;have HQP:=acA hq;have HX:=acA hx;have I9:=acA hgn;have Ba:=acA hxk;have ZO:=acA hk;clear hq hx hgn hxk hnm hk;have nH:dZ.ok nm:=by
      have:=sH nm I9.o;show nm.length≤maxLen;unfold maxLen;omega
     have IC:acB (ni T ls ls'=if (aj nm x.names).isSome then 21 else if 64≤y.links then 4 else 0):=by
      have e1:bJ T d=x.names:=by unfold bJ;rw[HX.o]
      have e2:tO T id=y.links:=by unfold tO;rw[HY.o]
      unfold ni;rw[if_neg (by rw[uS.o];simp),←HQ.o,if_neg (by simp),if_neg (by rw[dM HY.o];exact ZO.o),←HQP.o,if_neg (by simp),e1,e2];exact rfl
     have vF:acB (∀w2,Below w.heap.size w w2→w2.cell? ⟨ib d,7,none⟩=some (.map (some (nb d)))∧MapAt dZ w2 (nb d) (bW x)):=fun w2 hb=>by
      have h2:=HH.o.below hb acC;have hi:=h2.item d x HX.o;obtain⟨_,_,_,_,_,_,c7,_⟩:=hi.cell;unfold eY at c7;rw[if_pos Ba.o]at c7;exact⟨c7,hi.names Ba.o⟩
     cases hj:aj nm x.names with
     |some j=>
      have Bb:acB (aj nm (bW x)=some (.int .i64 j)):=by rw[fP,hj];rfl
      have HM:acB (fM T ls ls'=(21,T)):=by
       unfold fM;rw[IC.o,hj];simp only[Option.isSome_some,if_true];exact rfl
      clear hj;go_enter aci,ab5;go_wp2_with fail;refine HF.o.mono ?_;rintro e w1 ⟨rfl,hb1⟩;have HB1:=acA hb1;clear hb1;go_wp2_with fail;refine(mg.o w1 HB1.o).mono ?_;rintro e w2 ⟨rfl,rfl⟩;obtain⟨c0,hmap,c1,c2⟩:=HIT.o w1 HB1.o;have jX:=acA hmap;clear hmap;go_wp2_with (first|(at_lookup;refine aY bY rfl _ _ 104 102 rfl Tryz.underlying104 (Tryz.bF _) rfl jX.o id rfl hok ?_;rw[HG.o]));refine(wY.o w1 HB1.o).mono ?_;rintro e w2 ⟨rfl,hb2⟩
      (first|rw[if_pos rfl]|rw[if_pos trivial])
      have HB2:=acA (HB1.o.trans (hb2.mono HB1.o.size));clear hb2;obtain⟨d7,gy⟩:=vF.o w2 HB2.o;have zZ:=acA gy;clear gy;go_wp2_with (at_lookup;refine aU dZ rfl _ _ 136 3 rfl aam (Tryz.iY _) rfl zZ.o nm rfl nH ?_;rw[Bb.o]);go_ret;rw[HM.o];exact Turn.same HH.o HB2.o rfl
     |none=>
      have Bb:acB (aj nm (bW x)=none):=by rw[fP,hj];rfl
      have HJ:=acA hj;clear hj;by_cases h64:64≤y.links
      ·have HM:acB (fM T ls ls'=(4,T)):=by
        unfold fM;rw[IC.o,HJ.o];simp only[Option.isSome_none,Bool.false_eq_true,if_false,if_pos h64];first|exact rfl|exact trivial
       have hd:decide ((64:Int)≤y.links)=true:=by simpa using h64
       go_enter aci,ab5;go_wp2_with fail;refine HF.o.mono ?_;rintro e w1 ⟨rfl,hb1⟩;have HB1:=acA hb1;clear hb1;go_wp2_with fail;refine(mg.o w1 HB1.o).mono ?_;rintro e w2 ⟨rfl,rfl⟩;obtain⟨c0,hmap,c1,c2⟩:=HIT.o w1 HB1.o;have jX:=acA hmap;clear hmap;go_wp2_with (first|(at_lookup;refine aY bY rfl _ _ 104 102 rfl Tryz.underlying104 (Tryz.bF _) rfl jX.o id rfl hok ?_;rw[HG.o]));refine(wY.o w1 HB1.o).mono ?_;rintro e w2 ⟨rfl,hb2⟩
       (first|rw[if_pos rfl]|rw[if_pos trivial])
       have HB2:=acA (HB1.o.trans (hb2.mono HB1.o.size));clear hb2;obtain⟨d7,gy⟩:=vF.o w2 HB2.o;obtain⟨_,_,_,f2⟩:=HIT.o w2 HB2.o;have zZ:=acA gy;clear gy;go_wp2_with (at_lookup;refine aU dZ rfl _ _ 136 3 rfl aam (Tryz.iY _) rfl zZ.o nm rfl nH ?_;rw[Bb.o]);go_ret;rw[HM.o];exact Turn.same HH.o HB2.o rfl
      ·have HM:acB (fM T ls ls'=(0,bq id (fun x=>{x with links:=x.links+1}) (setName T d nm id))):=by
        unfold fM CK;rw[IC.o,HJ.o,←HQP.o,←HQ.o];simp only[Option.isSome_none,Bool.false_eq_true,if_false,if_neg h64,if_pos];first|exact rfl|exact trivial
       have hd:decide ((64:Int)≤y.links)=false:=by simpa using h64
       have hln:=(HT.o.each id y HY.o).links;have hdi:id≠d:=fun e=>by have h1:=HX.o;rw[←e,HY.o]at h1;cases h1;exact ZO.o Ba.o
       have Fu:=acA hdi;have tX:(bW x).length<maxLen:=by
        have h1:=HT.o.few HX.o;unfold bW maxLen;rw[List.length_map];omega
       have ZN:=acA tX;clear hdi tX;go_enter aci,ab5;go_wp2_with fail;refine HF.o.mono ?_;rintro e w1 ⟨rfl,hb1⟩;have HB1:=acA hb1;clear hb1;go_wp2_with fail;refine(mg.o w1 HB1.o).mono ?_;rintro e w2 ⟨rfl,rfl⟩;obtain⟨c0,hmap,c1,c2⟩:=HIT.o w1 HB1.o;have jX:=acA hmap;clear hmap;go_wp2_with (first|(at_lookup;refine aY bY rfl _ _ 104 102 rfl Tryz.underlying104 (Tryz.bF _) rfl jX.o id rfl hok ?_;rw[HG.o]));refine(wY.o w1 HB1.o).mono ?_;rintro e w2 ⟨rfl,hb2⟩
       (first|rw[if_pos rfl]|rw[if_pos trivial])
       have HB2:=acA (HB1.o.trans (hb2.mono HB1.o.size));clear hb2;obtain⟨d7,gy⟩:=vF.o w2 HB2.o;obtain⟨_,_,_,f2⟩:=HIT.o w2 HB2.o;have zZ:=acA gy;have HA2:=acA (HH.o.below HB2.o acC);have ZP:acB (∀w3,MapAt dZ w3 (nb d) (dW dZ.lt nm (.int .i64 id) (bW x))→w2.mapTurned w3 (nb d)→aO g D w3 p mb ib nb (setName T d nm id)∧w3.cell? ⟨ib id,2,none⟩=some (.int .i64 y.links)∧w3.frozen? ⟨ib id,2,none⟩=false∧aj id (setName T d nm id)=some y):=fun w3 hM WJ=>by
        have h3:=HA2.o.set (id:=id) HX.o Ba.o hM WJ;have hy3:aj id (setName T d nm id)=some y:=by unfold setName;rw[aW,if_neg Fu.o];exact HY.o
        exact⟨h3,(h3.item id y hy3).cell.2.2.1,(h3.item id y hy3).frozen 2,hy3⟩
       clear gy;go_wp2_with (first|(at_lookup;refine aU dZ rfl _ _ 136 3 rfl aam (Tryz.iY _) rfl zZ.o nm rfl nH ?_;rw[Bb.o])|(at_mapUpdate;refine pY dZ rfl _ _ _ 136 3 rfl aam rfl zZ.o ZN.o nm (.int .i64 id) rfl rfl nH ?_;intro w5 YZ Jb;obtain⟨Lj,g2,Rs,hy5⟩:=ZP.o w5 YZ Jb;have ZQ:=acA Lj;have HY5:=acA hy5;have zK:=acA Jb;clear Lj YZ Jb hy5));go_ret;rw[HM.o];have Lj:=ZQ.o;have hgi:=HH.o.rG id y HY.o;have hgd:=HH.o.pI d x HX.o Ba.o;refine Turn.of rfl (Lj.fields HY5.o (fun x=>{x with links:=x.links+1}) rfl rfl rfl (Keeps.f_ w5 ⟨ib id,2,none⟩ _) (by rw[size_set]) fun a c hc=>by rw[aI hc];rfl) ?_;have k1:Keeps (fun b=>g b≠ .none) w w2:=(Keeps.below HB2.o).mono fun b hb hb'=>absurd hb (by omega);have k2:Keeps (fun b=>g b≠ .none) w2 w5:=(fJ zK.o).mono fun b _ hb=>by rw[show b=nb d from hb,hgd];simp
       have k3:Keeps (fun b=>g b≠ .none) w5 (w5.setCell ⟨ib id,2,none⟩ (.int .i64 (y.links+1))):=(Keeps.f_ w5 ⟨ib id,2,none⟩ _).mono fun b _ hb=>by rw[show b=ib id from hb,hgi];simp
       exact(k1.trans k2 (fun _ _ h=>h)).trans k3 (fun _ _ h=>h)
    ·have hne:((aH T ls').2.2==0)=false:=by simpa using hp
     have hne2:((aH T ls').2.2 !=0)=true:=by simpa using hp
     have HM:acB (fM T ls ls'=((aH T ls').2.2,T)):=by
      have:ni T ls ls'=(aH T ls').2.2:=by
       unfold ni;rw[if_neg (by rw[uS.o];simp),←HQ.o,if_neg (by simp),if_neg (by rw[dM HY.o];exact hk),if_pos hp]
      unfold fM;rw[this,if_neg hp];exact rfl
     have HP:=acA hp;unfold qJ at wY;generalize aH T ls'=q at*;clear hp hk;go_enter aci,ab5;go_wp2_with fail;refine HF.o.mono ?_;rintro e w1 ⟨rfl,hb1⟩;have HB1:=acA hb1;clear hb1;go_wp2_with fail;refine(mg.o w1 HB1.o).mono ?_;rintro e w2 ⟨rfl,rfl⟩;obtain⟨c0,hmap,c1,c2⟩:=HIT.o w1 HB1.o;have jX:=acA hmap;clear hmap;go_wp2_with (first|(at_lookup;refine aY bY rfl _ _ 104 102 rfl Tryz.underlying104 (Tryz.bF _) rfl jX.o id rfl hok ?_;rw[HG.o]));refine(wY.o w1 HB1.o).mono ?_;rintro e w2 ⟨rfl,hb2⟩;rw[if_neg HP.o];have HB2:=acA (HB1.o.trans (hb2.mono HB1.o.size));clear hb2;go_wp2_with fail;go_ret;rw[HM.o];exact Turn.same HH.o HB2.o rfl
  ·have hne:(e0==0)=false:=by simpa using he
   have hne2:(e0 !=0)=true:=by simpa using he
   have HM:acB (fM T ls ls'=(e0,T)):=by
    have:ni T ls ls'=e0:=by
     unfold ni;rw[if_neg (by rw[uS.o];simp),←HQ.o,if_pos he]
    unfold fM;rw[this,if_neg he];exact rfl
   clear he;go_enter aci,ab5;go_wp2_with fail;refine HF.o.mono ?_;rintro e w1 ⟨rfl,hb1⟩;have HB1:=acA hb1;clear hb1;go_wp2_with fail;refine(mg.o w1 HB1.o).mono ?_;rintro e w2 ⟨rfl,rfl⟩;go_wp2_with fail;go_ret;rw[HM.o];exact Turn.same HH.o HB1.o rfl
 ·have HM:acB (fM T ls ls'=(kE ls ls',T)):=by
   have:ni T ls ls'=kE ls ls':=by unfold ni;rw[if_pos hf]
   unfold fM;rw[this,if_neg hf];exact rfl
  have hne:(kE ls ls'==0)=false:=by simpa using hf
  have hne2:(kE ls ls' !=0)=true:=by simpa using hf
  clear hf;go_enter aci,ab5;go_wp2_with fail;refine HF.o.mono ?_;rintro e w1 ⟨rfl,hb1⟩;go_wp2_with fail;go_ret;rw[HM.o];exact Turn.same HH.o hb1 rfl
end
theorem dG.del{T:aL}(h:dG T){k:Int}{x:bP}(hx:aj k T=some x)(h0:k≠0)(hn:x.names=[])(hc:jh T k=0):dG (bS k T):=by
 have hget:∀j y,aj j (bS k T)=some y→j≠k∧aj j T=some y:=fun j y hy=>by
  rw[fF]at hy;by_cases hj:j=k
  ·rw[if_pos hj]at hy;cases hy
  ·rw[if_neg hj]at hy;exact⟨hj,hy⟩
 have hcn:∀j,cn j x=0:=fun j=>by unfold cn;rw[hn];rfl
 refine⟨⟨h.sorted.bS _,?_,fun j y hy=>h.each j y (hget j y hy).2,fun j y hy e he=> ?_,?_,fun j y hy=>h.ids j y (hget j y hy).2⟩,fun j y hy hj=> ?_⟩
 ·have hr:=h.root;unfold dL at hr⊢;rw[fF,if_neg (abw h0)];exact hr
 ·have h1:=h.leads j y (hget j y hy).2 e he;have h2:=B_ hc (hget j y hy).2 e he;rw[fF,if_neg h2];exact h1
 ·have:=vB fC h.sorted hx;have:=h.len;omega
 ·have h1:=zV h.sorted hx j;rw[hcn]at h1;have h2:=h.counts j y (hget j y hy).2 hj;omega
theorem dG.settle{T:aL}(h:dG T){k:Int}(hk:k≠0)(hf:∀x,aj k T=some x→x.kind≠2):dG (iR T k):=by
 unfold iR;cases hx:aj k T with
 |none=>exact h
 |some x=>
  simp only;by_cases hc:x.links=0∧x.closed=true
  ·rw[if_pos hc];have hk1:=(h.each k x hx).kind.resolve_right (hf x hx);refine h.del hx hk ((h.each k x hx).file hk1) ?_;have:=h.counts k x hx hk;omega
  ·rw[if_neg hc];exact h
theorem dG.wI{T:aL}(h:dG T){k:Int}{x:bP}(hx:aj k T=some x)(hk:x.kind≠2):k≠0:=by
 rintro rfl;have:=h.root;unfold dL at this;rw[hx]at this;exact hk this
theorem CW{T:aL}(hT:dG T){ls:List Nm}{kind:Int}(h:lU T ls kind=0):bg ls=0∧(kind=1∨kind=2)∧(aH T ls).2.2=0∧aj (aH T ls).2.1 (bJ T (aH T ls).1)=none∧T.length<64:=by
 unfold lU at h;by_cases h1:bg ls≠0
 ·rw[if_pos h1]at h;exact absurd h h1
 ·rw[if_neg h1]at h;by_cases h2:¬(kind=1∨kind=2)
  ·rw[if_pos h2]at h;cases h
  ·rw[if_neg h2]at h;by_cases h3:(aH T ls).2.2≠0
   ·rw[if_pos h3]at h;exact absurd h h3
   ·rw[if_neg h3]at h;by_cases h4:(aj (aH T ls).2.1 (bJ T (aH T ls).1)).isSome=true
    ·rw[if_pos h4]at h;cases h
    ·rw[if_neg h4]at h;by_cases h5:64≤T.length
     ·rw[if_pos h5]at h;cases h
     ·exact⟨by omega,Decidable.not_not.1 h2,by omega,by simpa using h4,by omega⟩
theorem dG.b_{T:aL}(h:dG T)(ls:List Nm)(kind:Int):dG (b_ T ls kind).2:=by
 unfold Go.Proofs.YtjnhnlabpccgjaaGreatDoor.b_;by_cases he:lU T ls kind=0
 ·rw[if_pos he];obtain⟨h1,h2,h3,h4,h5⟩:=CW h he;obtain⟨x,hx,hk,hm⟩:=je h h3;obtain⟨f,hf,hf1,hf2,hfn,_⟩:=h.free;have e1:bJ T (aH T ls).1=x.names:=by unfold bJ;rw[hx]
  rw[e1]at h4;have hlen:=h.len;show dG (vD T ls kind);unfold vD;rw[hf];exact h.make h2 hfn (by omega) (by omega) h5 hx hk (jT h1 _ hm) h4
 ·rw[if_neg he];exact h
theorem dG.dw{T:aL}(h:dG T)(id:Int)(b:List UInt8):dG (dw T id b).2:=by
 unfold Go.Proofs.YtjnhnlabpccgjaaGreatDoor.dw;by_cases he:mK T id b=0
 ·simp only[if_pos he];unfold mK at he;cases hx:aj id T with
  |none=>rw[hx]at he;cases he
  |some x=>
   rw[hx]at he;simp only at he;by_cases hk:x.kind=2
   ·rw[if_pos hk]at he;cases he
   ·rw[if_neg hk]at he;cases hc:x.closed with
    |true=>rw[hc]at he;cases he
    |false=>
     rw[hc]at he;simp only[Bool.false_eq_true,if_false]at he;by_cases hb:4096<x.b.length+b.length
     ·rw[if_pos hb]at he;cases he
     ·have ho:=h.each id x hx;exact h.zW hx ⟨ho.kind,ho.file,fun h=>absurd h hk,fun _=>hc,ho.sorted,ho.good,by rw[List.length_append];omega,ho.links,ho.aA⟩ rfl rfl rfl
 ·simp only[if_neg he];exact h
theorem dG.eF{T:aL}(h:dG T)(id aA:Int)(h0:0≤aA):dG (eF T id aA).2:=by
 unfold Go.Proofs.YtjnhnlabpccgjaaGreatDoor.eF;by_cases he:uK T id aA=0
 ·simp only[if_pos he];unfold uK at he;cases hx:aj id T with
  |none=>rw[hx]at he;cases he
  |some x=>
   rw[hx]at he;simp only at he;by_cases hk:x.kind=2
   ·rw[if_pos hk]at he;cases he
   ·rw[if_neg hk]at he;cases hc:x.closed with
    |true=>rw[hc]at he;cases he
    |false=>
     rw[hc]at he;simp only[Bool.false_eq_true,if_false]at he;by_cases hb:1099511627776<aA
     ·rw[if_pos hb]at he;cases he
     ·have ho:=h.each id x hx;have hk1:=ho.kind.resolve_right hk;have hcnt:=h.counts id x hx (h.wI hx hk);by_cases hl:x.links=0
      ·have hn:=ho.file hk1;have e:iR (Go.Proofs.YtjnhnlabpccgjaaGreatDoor.bq id (fun x=>{x with closed:=true,aA:=aA}) T) id=bS id T:=by
        unfold iR;rw[aW,if_pos rfl,hx];simp only[aat,hl,and_self,if_true];unfold bS Go.Proofs.YtjnhnlabpccgjaaGreatDoor.bq;clear hx ho hcnt he h
        induction T with
        |nil=>rfl
        |cons y r ih=>
         rw[aaA,aaR,aaR,ih];by_cases hy:y.1=id<;>simp[hy]
       rw[e];exact h.del hx (h.wI hx hk) hn (by omega)
      ·have hs:dG (Go.Proofs.YtjnhnlabpccgjaaGreatDoor.bq id (fun x=>{x with closed:=true,aA:=aA}) T):=
        h.zW hx ⟨ho.kind,ho.file,fun h=>absurd h hk,fun h=>absurd h hl,ho.sorted,ho.good,ho.size,ho.links,⟨h0,by simp only;omega⟩⟩ rfl rfl rfl
       exact hs.settle (h.wI hx hk) (fun y hy=>by
        rw[aW,if_pos rfl,hx]at hy;simp only[aat,aac]at hy;rw[←hy];exact hk)
 ·simp only[if_neg he];exact h
theorem dG.eX{T:aL}(h:dG T)(id aA:Int)(h0:0≤aA):dG (eX T id aA).2:=by
 unfold Go.Proofs.YtjnhnlabpccgjaaGreatDoor.eX;by_cases he:rM T id aA=0
 ·simp only[if_pos he];unfold rM at he;cases hx:aj id T with
  |none=>rw[hx]at he;cases he
  |some x=>
   rw[hx]at he;simp only at he;by_cases hk:x.kind=2
   ·rw[if_pos hk]at he;cases he
   ·rw[if_neg hk]at he;by_cases hc:x.closed=false
    ·rw[if_pos hc]at he;cases he
    ·rw[if_neg hc]at he;by_cases hb:aA<x.aA
     ·rw[if_pos hb]at he;cases he
     ·rw[if_neg hb]at he;by_cases hb:1099511627776<aA
      ·rw[if_pos hb]at he;cases he
      ·have ho:=h.each id x hx;exact h.zW hx ⟨ho.kind,ho.file,fun h=>absurd h hk,ho.gone,ho.sorted,ho.good,ho.size,ho.links,⟨h0,by simp only;omega⟩⟩ rfl rfl rfl
 ·simp only[if_neg he];exact h
theorem CX{T:aL}{p tq:List Nm}(h:ni T p tq=0):kE p tq=0∧(aJ T 0 p).2=0∧dL T (aJ T 0 p).1≠2∧(aH T tq).2.2=0∧aj (aH T tq).2.1 (bJ T (aH T tq).1)=none∧tO T (aJ T 0 p).1<64:=by
 unfold ni at h;by_cases h1:kE p tq≠0
 ·rw[if_pos h1]at h;exact absurd h h1
 ·rw[if_neg h1]at h;by_cases h2:(aJ T 0 p).2≠0
  ·rw[if_pos h2]at h;exact absurd h h2
  ·rw[if_neg h2]at h;by_cases h3:dL T (aJ T 0 p).1=2
   ·rw[if_pos h3]at h;cases h
   ·rw[if_neg h3]at h;by_cases h4:(aH T tq).2.2≠0
    ·rw[if_pos h4]at h;exact absurd h h4
    ·rw[if_neg h4]at h;by_cases h5:(aj (aH T tq).2.1 (bJ T (aH T tq).1)).isSome=true
     ·rw[if_pos h5]at h;cases h
     ·rw[if_neg h5]at h;by_cases h6:64≤tO T (aJ T 0 p).1
      ·rw[if_pos h6]at h;cases h
      ·exact⟨by omega,by omega,h3,by omega,by simpa using h5,by omega⟩
theorem qM{p q:List Nm}(h:kE p q=0):bg p=0∧bg q=0:=by
 unfold kE at h;split at h
 ·rename_i h1;exact absurd h h1
 ·exact⟨by omega,h⟩
theorem dG.fM{T:aL}(h:dG T)(p tq:List Nm):dG (fM T p tq).2:=by
 unfold Go.Proofs.YtjnhnlabpccgjaaGreatDoor.fM;by_cases he:ni T p tq=0
 ·simp only[if_pos he];obtain⟨h1,h2,h3,h4,h5,h6⟩:=CX he;obtain⟨x,hx,hk,hm⟩:=je h h4;obtain⟨y,hy⟩:=aaf.1 (gL h p 0 (gu h) h2);have e1:bJ T (aH T tq).1=x.names:=by unfold bJ;rw[hx]
  have e2:tO T (aJ T 0 p).1=y.links:=by unfold tO;rw[hy]
  rw[e1]at h5;rw[e2]at h6;rw[dM hy]at h3;exact h.link hx hk (jT (qM h1).2 _ hm) h5 hy h3 h6 (h.wI hy h3)
 ·simp only[if_neg he];exact h
structure Ac(W:World)(P:Nat→Prop)(w:World)(p:Nat)(T:aL):Prop where
 at_:∃g D mb ib nb,aO g D w p mb ib nb T∧∀b,g b≠ .none∨D b→W.heap.size≤b∧¬P b
 ok:dG T
 below:Below W.heap.size W w
 low:∀x,P x→x<w.heap.size
theorem Ac.grow{W w w':World}{P:Nat→Prop}{p:Nat}{T:aL}(h:Ac W P w p T)(hb:Below w.heap.size w w'):Ac W P w' p T:=by
 obtain⟨g,D,mb,ib,nb,hA,hF⟩:=h.at_;exact⟨⟨g,D,mb,ib,nb,hA.below hb acC,hF⟩,h.ok,h.below.trans (hb.mono h.below.size),fun x hx=>Pd (h.low x hx) hb.size⟩
theorem Ac.mono{W w:World}{P Q:Nat→Prop}{p:Nat}{T:aL}(h:Ac W P w p T)(hq:∀x,Q x→P x):Ac W Q w p T:=by
 obtain⟨g,D,mb,ib,nb,hA,hF⟩:=h.at_;exact⟨⟨g,D,mb,ib,nb,hA,fun x hx=>⟨(hF x hx).1,fun h=>(hF x hx).2 (hq x h)⟩⟩,h.ok,h.below,fun x hx=>h.low x (hq x hx)⟩
section
variable{W w:World}{P:Nat→Prop}{p:Nat}{T:aL}
end
abbrev Mark:=Nat→Nat
structure Marks(W:World)(o:Mark)(w:World):Prop where
 new:∀b,o b≠0→W.heap.size≤b∧b<w.heap.size
 below:Below W.heap.size W w
structure Step(o:Mark)(I:Nat→Prop)(w:World)(o':Mark)(w':World):Prop where
 old:∀b,b<w.heap.size→o' b=o b
 new:∀b,w.heap.size≤b→o' b≠0→I (o' b)∧b<w'.heap.size
 keep:Keeps (fun b=>I (o b)) w w'
theorem Marks.step{W w w':World}{o o':Mark}{I:Nat→Prop}(h:Marks W o w)(hi:¬I 0)(hs:Step o I w o' w'):Marks W o' w':=by
 refine⟨fun b hb=> ?_,h.below.trans (hs.keep.mh h.below.size fun x hx (hxi:I (o x))=> ?_)⟩
 ·by_cases hlt:b<w.heap.size
  ·rw[hs.old b hlt]at hb;exact⟨(h.new b hb).1,Pd hlt hs.keep.size⟩
  ·have h1:=(hs.new b (by omega) hb).2;have:=h.below.size;exact⟨by omega,h1⟩
 ·have h0:o x≠0:=fun e=>hi (by rw[e]at hxi;exact hxi);have:=(h.new x h0).1;omega
theorem Marks.grow{W w w':World}{o:Mark}(h:Marks W o w)(hb:Below w.heap.size w w'):Marks W o w':=
 ⟨fun b hn=>⟨(h.new b hn).1,Pd (h.new b hn).2 hb.size⟩,h.below.trans (hb.mono h.below.size)⟩
theorem Step.mono{w w':World}{o o':Mark}{I J:Nat→Prop}(h:Step o I w o' w')(hIJ:∀i,I i→J i):Step o J w o' w':=
 ⟨h.old,fun b hb hn=>⟨hIJ _ (h.new b hb hn).1,(h.new b hb hn).2⟩,h.keep.mono fun x _ hx=>hIJ _ hx⟩
theorem Step.grow{W w w':World}{o:Mark}{I:Nat→Prop}(h:Marks W o w)(hb:Below w.heap.size w w'):Step o I w o w':=
 ⟨fun _ _=>rfl,fun b hb hn=>by have:=(h.new b hn).2;omega,(Keeps.below hb).mono fun x hx hx'=>absurd hx (by omega)⟩
theorem Step.trans{w w1 w2:World}{o o1 o2:Mark}{I:Nat→Prop}(h:Step o I w o1 w1)(k:Step o1 I w1 o2 w2):Step o I w o2 w2:=by
 have hs:=h.keep.size;refine⟨fun b hb=>(k.old b (by omega)).trans (h.old b hb),fun b hb hn=> ?_,h.keep.trans k.keep fun x hx (hxi:I (o1 x))=>by rw[h.old x hx]at hxi;exact hxi⟩;by_cases hlt:b<w1.heap.size
 ·rw[k.old b hlt]at hn⊢;exact⟨(h.new b hb hn).1,Pd (h.new b hb hn).2 k.keep.size⟩
 ·exact k.new b (by omega) hn
theorem Step.then_{W w w1 w2:World}{o o1:Mark}{I:Nat→Prop}(hM:Marks W o w)(hi:¬I 0)(h:Step o I w o1 w1)(hb:Below w1.heap.size w1 w2):Step o I w o1 w2:=h.trans (Step.grow (hM.step hi h) hb)
theorem Step.behind{W w w1 w2:World}{o o2:Mark}{I:Nat→Prop}(hM:Marks W o w)(hb:Below w.heap.size w w1)(h:Step o I w1 o2 w2):Step o I w o2 w2:=(Step.grow hM hb).trans h
theorem Step.block{w w':World}{o o':Mark}{I:Nat→Prop}(h:Step o I w o' w'){b:Nat}(hb:b<w.heap.size)(hn:¬I (o b)):w'.heap[b]? =w.heap[b]? :=h.keep.block b hb hn
def Free(o:Mark)(w:World)(b:Nat):Prop:=o b=0∧b<w.heap.size
theorem ah.free{o o':Mark}{I:Nat→Prop}{w w':World}{a:Option Addr}{n:Nat}{vs:List Value}(h:ah (Free o w) w a n vs)(hi:¬I 0)(hs:Step o I w o' w'):ah (Free o' w') w' a n vs:=
 h.move hs.keep.size fun b hb hbw=>⟨⟨(hs.old b hb.2).trans hb.1,Pd hb.2 hs.keep.size⟩,hs.block hb.2 (by rw[hb.1];exact hi)⟩
theorem ah.Jh{W w w':World}{o:Mark}{a:Option Addr}{n:Nat}{vs:List Value}(hM:Marks W o w)(h:ah (fun x=>w.heap.size≤x∧x<w'.heap.size) w' a n vs):ah (Free o w') w' a n vs:=
 h.mono fun b hb=>⟨aaj fun h0=>by have:=(hM.new b h0).2;omega,hb.2⟩
def fO(o:Mark)(i:Nat)(w:World)(p:Nat)(T:aL):Prop:=
 ∃g D mb ib nb,aO g D w p mb ib nb T∧(∀b,g b≠ .none→o b=i)∧(∀b,D b→o b=0)
theorem fO.step{o o':Mark}{I:Nat→Prop}{j:Nat}{w w':World}{p:Nat}{T:aL}(h:fO o j w p T)(hi:¬I 0)(hij:¬I j)(hs:Step o I w o' w'):fO o' j w' p T:=by
 obtain⟨g,D,mb,ib,nb,hA,hg,hD⟩:=h;refine⟨g,D,mb,ib,nb,hA.keeps hs.keep fun b hb=> ?_,fun b hb=>(hs.old b (hA.low b hb)).trans (hg b hb),fun b hb=>(hs.old b (hA.rX b hb)).trans (hD b hb)⟩;rcases hb with hb|hb
 ·rw[hg b hb];exact hij
 ·rw[hD b hb];exact hi
theorem fO.grow{o:Mark}{j:Nat}{w w':World}{p:Nat}{T:aL}(h:fO o j w p T)(hb:Below w.heap.size w w'):fO o j w' p T:=by
 obtain⟨g,D,mb,ib,nb,hA,hg,hD⟩:=h;exact⟨g,D,mb,ib,nb,hA.below hb acC,hg,hD⟩
theorem fO.remark{o o':Mark}{j k:Nat}{w:World}{p:Nat}{T:aL}(h:fO o j w p T)(h1:∀b,b<w.heap.size→o b=j→o' b=k)(h2:∀b,b<w.heap.size→o b=0→o' b=0):fO o' k w p T:=by
 obtain⟨g,D,mb,ib,nb,hA,hg,hD⟩:=h;exact⟨g,D,mb,ib,nb,hA,fun b hb=>h1 b (hA.low b hb) (hg b hb),fun b hb=>h2 b (hA.rX b hb) (hD b hb)⟩
def iT(o:Mark)(i:Nat)(w:World)(p:Nat)(T':aL)(v:Value)(e:Ending)(w':World):Prop:=
 e= .returned v∧∃o',Step o (fun j=>j=i) w o' w'∧fO o' i w' p T'
open Classical in
theorem iT.of{W w w':World}{o:Mark}{i p mb:Nat}{T':aL}{v:Value}{e:Ending}{g:Nat→Own}{D:Nat→Prop}(hM:Marks W o w)(hi:i≠0)(hg:∀b,g b≠ .none→o b=i)(hD:∀b,D b→o b=0)(ht:Turn g D w p mb T' v e w'):iT o i w p T' v e w':=by
 obtain⟨rfl,g',D',NG,nb',hA',hg',hD',hK⟩:=ht;obtain⟨o',ho⟩:∃o':Mark,∀b,o' b=if b<w.heap.size then o b else if g' b≠ .none then i else 0:=⟨_,fun _=>rfl⟩;refine⟨rfl,o',⟨fun b hb=>by rw[ho,if_pos hb],fun b hb hn=> ?_,hK.mono fun x _ hx=>hg x hx⟩,g',D',mb,NG,nb',hA',fun b hb=> ?_,fun b hb=> ?_⟩
 ·rw[ho,if_neg (by omega)]at hn⊢;by_cases h:g' b≠ .none
  ·rw[if_pos h];exact⟨rfl,hA'.low b h⟩
  ·rw[if_neg h]at hn;exact absurd rfl hn
 ·rw[ho];by_cases hlt:b<w.heap.size
  ·rw[if_pos hlt];rcases hg' b hb with h|h
   ·exact hg b h
   ·omega
  ·rw[if_neg hlt,if_pos hb]
 ·rw[ho];by_cases hlt:b<w.heap.size
  ·rw[if_pos hlt];rcases hD' b hb with h|h
   ·exact hD b h
   ·omega
  ·rw[if_neg hlt,if_neg (by rw[hA'.data b hb];simp)]
section
variable{W w:World}{o:Mark}{i p:Nat}{T:aL}
theorem NH{S:Nat→Prop}(h:fO o i w p T)(hM:Marks W o w)(hi:i≠0)(hT:dG T)(a:Option Addr)(n c:Nat)(ls:List Nm)(kind:Int)(hS:aK S w a n (ls.map strOf))(hc:n≤c)(lF:n≤1000000):
  Calls Tryz.prog 72 #[ptr p,.slice a n c,.int .i64 kind] w (iT o i w p (b_ T ls kind).2 (.tuple #[.int .i64 (b_ T ls kind).1.1,.int .i64 (b_ T ls kind).1.2])):=by
 obtain⟨g,D,mb,ib,nb,hA,hg,hD⟩:=h;exact(Wx a n c ls kind w hA hT hS hc lF).mono fun e w' ht=>iT.of hM hi hg hD ht
theorem OX{S:Nat→Prop}(h:fO o i w p T)(hM:Marks W o w)(hi:i≠0)(hT:dG T)(id:Int)(a:Option Addr)(l c:Nat)(bs:List UInt8)(hid:(Lit.int .i64 id).wf=true)(hr:ah S w a l (bs.map bv))(hl:l≤1000000000):
  Calls Tryz.prog 147 #[ptr p,.int .i64 id,.slice a l c] w (iT o i w p (dw T id bs).2 (.int .i64 (dw T id bs).1)):=by
 obtain⟨g,D,mb,ib,nb,hA,hg,hD⟩:=h;exact(OV id a l c bs w hA (fun x hx=>(hT.each id x hx).size) hid hr hl).mono fun e w' ht=>iT.of hM hi hg hD ht
end
end Go.Proofs.YtjnhnlabpccgjaaGreatDoor
