/- tree: Link. A law's own tree, beside what else is the law's. Names that go: what holds of a tree behind Unlink, Rmdir; where a path's name stands. -/
import Derived.Test.YtjnhnlabpccgjaaGreatM11
namespace Go.Proofs.YtjnhnlabpccgjaaGreat
open Go.ChangeShapes Go.WideShapes Go.ChangeAt Go.RowKit
set_option linter.unusedVariables false
set_option linter.unusedSimpArgs false
section
variable {g:Nat→Own} {D:Nat→Prop} {p mb:Nat} {ib nb:Int→Nat} {T:aF}
theorem aY {id:Int} {x:bA} (hx:ah id T=some x):bf T id=x.kind:=by unfold bf;rw[hx]
theorem fB.link (h:fB T) {d id:Int} {x y:bA} {n:Nm} (hx:ah d T=some x) (hxk:x.kind=2) (hn:bV n=true) (hnn:ah n x.names=none) (hy:ah id T=some y) (hyk:y.kind≠2) (hl:y.links<64) (h0:id≠0):
  fB (Go.Proofs.YtjnhnlabpccgjaaGreat.aX id (fun x=>{x with links:=x.links+1}) (setName T d n id)):=by
 have hdi:id≠d:=fun e=>by subst e;rw[hx]at hy;cases hy;exact hyk hxk
 have hP:=h.torz.set (n:=n) (id:=id) hx hxk hn ⟨by rw[hy];rfl,h0⟩
 have hy1:ah id (setName T d n id)=some y:=by unfold setName;rw[aS,if_neg hdi];exact hy
 have hoy:=h.each id y hy
 have hk1:y.kind=1:=hoy.kind.resolve_right hyk
 have hsame:cn id {y with links:=y.links+1}=cn id y:=rfl
 refine⟨hP.aX (f:=fun x=>{x with links:=x.links+1}) hy1 ⟨hoy.kind,hoy.file,fun h=>absurd h hyk,fun h=> ?_,hoy.sorted,hoy.good,hoy.size,?_,hoy.aO⟩ rfl (hP.leads id y hy1),fun j z hz hj=> ?_⟩
 ·have:=hoy.links
  have h2:y.links+1=0:=h
  omega
 ·have:=hoy.links
  simp only
  omega
 ·have h1:=kH hP.sorted (fun x=>{x with links:=x.links+1}) hy1 j
  have h1':cn j {y with links:=y.links+1}=cn j y:=rfl
  have h2:=kH h.sorted (fun x=>{x with names:=bZ bytesBefore n id x.names}) hx j
  have h3:=FB (id:=id) hnn j
  have e:eB (Go.Proofs.YtjnhnlabpccgjaaGreat.aX id (fun x=>{x with links:=x.links+1}) (setName T d n id)) j=eB T j+if id=j then 1 else 0:=by
   unfold setName at h1⊢
   rw[h1']at h1
   omega
  rw[e]
  rw[aS]at hz
  by_cases hji:j=id
  ·subst hji
   rw[if_pos rfl,hy1]at hz
   simp only[Option.map_some,Option.some.injEq]at hz
   rw[←hz,if_pos rfl]
   have:=h.counts j y hy hj
   simp only
   omega
  ·rw[if_neg hji]at hz
   rw[if_neg (Ne.symm hji)]
   unfold setName at hz
   rw[aS]at hz
   by_cases hjd:j=d
   ·subst hjd
    rw[if_pos rfl,hx]at hz
    simp only[Option.map_some,Option.some.injEq]at hz
    have:=h.counts j x hx hj
    rw[←hz]
    simp only
    omega
   ·rw[if_neg hjd]at hz
    have:=h.counts j z hz hj
    omega
theorem oZ {p:List Nm} {id:Int} (h:aA T 0 p=(id,0)) (hT:fB T):(ah id T).isSome=true:=by
 have:=eF hT p 0 (dH hT) (by rw[h])
 rw[h]at this
 exact this
set_option maxRecDepth 100000 in
set_option maxHeartbeats 8000000 in
theorem Oy {S S':Nat→Prop} (a:Option Addr) (n c:Nat) (ls:List Nm) (a':Option Addr) (n' c':Nat) (ls':List Nm) (w:World) (h:aH g D w p mb ib nb T) (hT:fB T) (hS:aP S w a n (ls.map strOf)) (hS':aP S' w a' n' (ls'.map strOf)) (hc':n'≤c') (oP:n'≤1000000):
  Calls Tryz.prog 68 #[ptr p, .slice a n c, .slice a' n' c'] w (Turn g D w p mb (dW T ls ls').2 (.int .i64 (dW T ls ls').1)):=by
 have HH:=Lib.hid h
 have HT:=Lib.hid hT
 have HF:=Lib.hid (Di a n c ls a' n' c' ls' w hS hS')
 have lJ:=Lib.hid (fun w1 (hb:Below w.heap.size w w1)=>nS a n c ls w1 (h.below hb (Nat.le_refl _)) hT (hS.below hb (Nat.le_refl _)))
 have rR:=Lib.hid (fun w1 (hb:Below w.heap.size w w1)=>rC a' n' c' ls' w1 (h.below hb (Nat.le_refl _)) hT (hS'.below hb (Nat.le_refl _)) hc' oP)
 clear h hT hS hS'
 by_cases hf:iC ls ls'=0
 ·have xZ:=Lib.hid hf
  rw[hf]at HF
  clear hf
  obtain⟨⟨id,e0⟩,hq⟩:∃q,q=aA T 0 ls:=⟨_,rfl⟩
  have HQ:=Lib.hid hq
  rw[←hq]at lJ
  clear hq
  by_cases he:e0=0
  ·subst he
   obtain⟨y,hy⟩:=Option.isSome_iff_exists.1 (oZ HQ.out.symm HT.out)
   have HY:=Lib.hid hy
   have kI:=HT.out.ids id y hy
   have hok:aV.ok id:=lC kI.1 (by omega)
   have HG:Hid (ah id (T.map fun q=>(q.1,ptr (ib q.1)))=some (ptr (ib id))):=by rw[dh,hy];rfl
   have HIT:Hid (∀w1,Below w.heap.size w w1→w1.cell? ⟨p,0,none⟩=some (.map (some mb))∧MapAt aV w1 mb (T.map fun q=>(q.1,ptr (ib q.1)))∧w1.cell? ⟨ib id,1,none⟩=some (.int .i64 y.kind)∧w1.cell? ⟨ib id,2,none⟩=some (.int .i64 y.links)):=fun w1 hb=>by
    have h2:=HH.out.below hb (Nat.le_refl _)
    obtain⟨_,c1,c2,_⟩:=(h2.item id y HY.out).cell
    exact⟨h2.cell.1,h2.map,c1,c2⟩
   clear hy
   by_cases hk:y.kind=2
   ·have HM:Hid (dW T ls ls'=(22,T)):=by
     have:jM T ls ls'=22:=by
      unfold jM
      rw[if_neg (by rw[xZ.out];simp),←HQ.out,if_neg (by simp),if_pos ((aY HY.out).trans hk)]
     unfold dW;rw[this,if_neg (by decide)];exact rfl
    go_enter Tryz.func68,Tryz.ntmps68
    go_wp2_with fail
    (with_reducible refine HF.out.mono ?_)
    rintro e w1 ⟨rfl,hb1⟩
    have HB1:=Lib.hid hb1
    clear hb1
    go_wp2_with fail
    (with_reducible refine(lJ.out w1 HB1.out).mono ?_)
    rintro e w2 ⟨rfl,rfl⟩
    obtain⟨c0,hmap,c1,c2⟩:=HIT.out w1 HB1.out
    rw[hk]at c1
    have fE:=Lib.hid hmap
    clear hmap
    go_wp2_with (first|(at_lookup;refine aK aV rfl _ _ 104 107 rfl Tryz.underlying104 (Tryz.aT _) rfl fE.out id rfl hok ?_;rw[HG.out]))
    go_ret
    rw[HM.out]
    exact Turn.same HH.out HB1.out rfl
   ·have hkk:(y.kind==2)=false:=by simpa using hk
    by_cases hp:(aC T ls').2.2=0
    ·obtain⟨x,hx,hxk,hnm⟩:=fV HT.out hp
     have hgn:bV (aC T ls').2.1=true:=by
      have:bK ls'=0:=by
       have:=xZ.out
       unfold iC at this
       split at this
       ·rename_i h1;exact absurd this h1
       ·exact this
      exact h_ this _ hnm
     obtain⟨⟨d,nm,z⟩,hq⟩:∃q,q=aC T ls':=⟨_,rfl⟩
     unfold mM at rR
     rw[←hq]at hp hx hnm hgn rR
     obtain rfl:z=0:=hp
     have Lm:=Lib.hid hq
     have HX:=Lib.hid hx
     have BX:=Lib.hid hgn
     have Aa:=Lib.hid hxk
     have Rh:=Lib.hid hk
     clear hq hx hgn hxk hnm hk
     have j_:cK.ok nm:=by
      have:=nT nm BX.out
      show nm.length≤maxLen
      unfold maxLen;omega
     have CS:Hid (jM T ls ls'=if (ah nm x.names).isSome then 21 else if 64≤y.links then 4 else 0):=by
      have e1:aJ T d=x.names:=by unfold aJ;rw[HX.out]
      have e2:oL T id=y.links:=by unfold oL;rw[HY.out]
      unfold jM
      rw[if_neg (by rw[xZ.out];simp),←HQ.out,if_neg (by simp),if_neg (by rw[aY HY.out];exact Rh.out),←Lm.out,if_neg (by simp),e1,e2]
      exact rfl
     have nU:Hid (∀w2,Below w.heap.size w w2→w2.cell? ⟨ib d,7,none⟩=some (.map (some (nb d)))∧MapAt cK w2 (nb d) (bL x)):=fun w2 hb=>by
      have h2:=HH.out.below hb (Nat.le_refl _)
      have hi:=h2.item d x HX.out
      obtain⟨_,_,_,_,_,_,c7,_⟩:=hi.cell
      unfold fD at c7
      rw[if_pos Aa.out]at c7
      exact⟨c7,hi.names Aa.out⟩
     cases hj:ah nm x.names with
     |some j=>
      have rD:Hid (ah nm (bL x)=some (.int .i64 j)):=by rw[dA,hj];rfl
      have HM:Hid (dW T ls ls'=(21,T)):=by
       unfold dW;rw[CS.out,hj];simp only[Option.isSome_some,if_true];exact rfl
      clear hj
      go_enter Tryz.func68,Tryz.ntmps68
      go_wp2_with fail
      (with_reducible refine HF.out.mono ?_)
      rintro e w1 ⟨rfl,hb1⟩
      have HB1:=Lib.hid hb1
      clear hb1
      go_wp2_with fail
      (with_reducible refine(lJ.out w1 HB1.out).mono ?_)
      rintro e w2 ⟨rfl,rfl⟩
      obtain⟨c0,hmap,c1,c2⟩:=HIT.out w1 HB1.out
      have fE:=Lib.hid hmap
      clear hmap
      go_wp2_with (first|(at_lookup;refine aK aV rfl _ _ 104 107 rfl Tryz.underlying104 (Tryz.aT _) rfl fE.out id rfl hok ?_;rw[HG.out]))
      (with_reducible refine(rR.out w1 HB1.out).mono ?_)
      rintro e w2 ⟨rfl,hb2⟩
      (first|rw[if_pos rfl]|rw[if_pos trivial])
      have HB2:=Lib.hid (HB1.out.trans (hb2.mono HB1.out.size))
      clear hb2
      obtain⟨d7,dZ⟩:=nU.out w2 HB2.out
      have lW:=Lib.hid dZ
      clear dZ
      go_wp2_with (at_lookup;refine aG cK rfl _ _ 110 3 rfl Tryz.underlying110 (Tryz.dL _) rfl lW.out nm rfl j_ ?_;rw[rD.out])
      go_ret
      rw[HM.out]
      exact Turn.same HH.out HB2.out rfl
     |none=>
      have rD:Hid (ah nm (bL x)=none):=by rw[dA,hj];rfl
      have HJ:=Lib.hid hj
      clear hj
      by_cases h64:64≤y.links
      ·have HM:Hid (dW T ls ls'=(4,T)):=by
        unfold dW;rw[CS.out,HJ.out];simp only[Option.isSome_none,Bool.false_eq_true,if_false,if_pos h64];first|exact rfl|exact trivial
       have hd:decide ((64:Int)≤y.links)=true:=by simpa using h64
       go_enter Tryz.func68,Tryz.ntmps68
       go_wp2_with fail
       (with_reducible refine HF.out.mono ?_)
       rintro e w1 ⟨rfl,hb1⟩
       have HB1:=Lib.hid hb1
       clear hb1
       go_wp2_with fail
       (with_reducible refine(lJ.out w1 HB1.out).mono ?_)
       rintro e w2 ⟨rfl,rfl⟩
       obtain⟨c0,hmap,c1,c2⟩:=HIT.out w1 HB1.out
       have fE:=Lib.hid hmap
       clear hmap
       go_wp2_with (first|(at_lookup;refine aK aV rfl _ _ 104 107 rfl Tryz.underlying104 (Tryz.aT _) rfl fE.out id rfl hok ?_;rw[HG.out]))
       (with_reducible refine(rR.out w1 HB1.out).mono ?_)
       rintro e w2 ⟨rfl,hb2⟩
       (first|rw[if_pos rfl]|rw[if_pos trivial])
       have HB2:=Lib.hid (HB1.out.trans (hb2.mono HB1.out.size))
       clear hb2
       obtain⟨d7,dZ⟩:=nU.out w2 HB2.out
       obtain⟨_,_,_,f2⟩:=HIT.out w2 HB2.out
       have lW:=Lib.hid dZ
       clear dZ
       go_wp2_with (at_lookup;refine aG cK rfl _ _ 110 3 rfl Tryz.underlying110 (Tryz.dL _) rfl lW.out nm rfl j_ ?_;rw[rD.out])
       go_ret
       rw[HM.out]
       exact Turn.same HH.out HB2.out rfl
      ·have HM:Hid (dW T ls ls'=(0,aX id (fun x=>{x with links:=x.links+1}) (setName T d nm id))):=by
        unfold dW xS;rw[CS.out,HJ.out,←Lm.out,←HQ.out];simp only[Option.isSome_none,Bool.false_eq_true,if_false,if_neg h64,if_pos];first|exact rfl|exact trivial
       have hd:decide ((64:Int)≤y.links)=false:=by simpa using h64
       have hln:=(HT.out.each id y HY.out).links
       have hdi:id≠d:=fun e=>by have h1:=HX.out;rw[←e,HY.out]at h1;cases h1;exact Rh.out Aa.out
       have VP:=Lib.hid hdi
       have ug:(bL x).length<maxLen:=by
        have h1:=HT.out.few HX.out
        unfold bL maxLen;rw[List.length_map];omega
       have FE:=Lib.hid ug
       clear hdi ug
       go_enter Tryz.func68,Tryz.ntmps68
       go_wp2_with fail
       (with_reducible refine HF.out.mono ?_)
       rintro e w1 ⟨rfl,hb1⟩
       have HB1:=Lib.hid hb1
       clear hb1
       go_wp2_with fail
       (with_reducible refine(lJ.out w1 HB1.out).mono ?_)
       rintro e w2 ⟨rfl,rfl⟩
       obtain⟨c0,hmap,c1,c2⟩:=HIT.out w1 HB1.out
       have fE:=Lib.hid hmap
       clear hmap
       go_wp2_with (first|(at_lookup;refine aK aV rfl _ _ 104 107 rfl Tryz.underlying104 (Tryz.aT _) rfl fE.out id rfl hok ?_;rw[HG.out]))
       (with_reducible refine(rR.out w1 HB1.out).mono ?_)
       rintro e w2 ⟨rfl,hb2⟩
       (first|rw[if_pos rfl]|rw[if_pos trivial])
       have HB2:=Lib.hid (HB1.out.trans (hb2.mono HB1.out.size))
       clear hb2
       obtain⟨d7,dZ⟩:=nU.out w2 HB2.out
       obtain⟨_,_,_,f2⟩:=HIT.out w2 HB2.out
       have lW:=Lib.hid dZ
       have HA2:=Lib.hid (HH.out.below HB2.out (Nat.le_refl _))
       have Ri:Hid (∀w3,MapAt cK w3 (nb d) (bZ cK.lt nm (.int .i64 id) (bL x))→w2.mapTurned w3 (nb d)→aH g D w3 p mb ib nb (setName T d nm id)∧w3.cell? ⟨ib id,2,none⟩=some (.int .i64 y.links)∧w3.frozen? ⟨ib id,2,none⟩=false∧ah id (setName T d nm id)=some y):=fun w3 hM Oz=>by
        have h3:=HA2.out.set (id:=id) HX.out Aa.out hM Oz
        have hy3:ah id (setName T d nm id)=some y:=by unfold setName;rw[aS,if_neg VP.out];exact HY.out
        exact⟨h3,(h3.item id y hy3).cell.2.2.1,(h3.item id y hy3).frozen 2,hy3⟩
       clear dZ
       go_wp2_with (first|(at_lookup;refine aG cK rfl _ _ 110 3 rfl Tryz.underlying110 (Tryz.dL _) rfl lW.out nm rfl j_ ?_;rw[rD.out])|(at_mapUpdate;refine gM cK rfl _ _ _ 110 3 rfl Tryz.underlying110 rfl lW.out FE.out nm (.int .i64 id) rfl rfl j_ ?_;intro w5 Rc La;obtain⟨CV,g2,KG,Y5⟩:=Ri.out w5 Rc La;have Rj:=Lib.hid CV;have HY5:=Lib.hid Y5;have Dm:=Lib.hid La;clear CV Rc La Y5))
       go_ret
       rw[HM.out]
       have CV:=Rj.out
       have hgi:=HH.out.mK id y HY.out
       have hgd:=HH.out.kG d x HX.out Aa.out
       refine Turn.of rfl (CV.fields HY5.out (fun x=>{x with links:=x.links+1}) rfl rfl rfl (Keeps.iG w5 ⟨ib id,2,none⟩ _) (by rw[size_set]) fun a c hc=>by rw[bX hc];rfl) ?_
       have k1:Keeps (fun b=>g b≠ .none) w w2:=(Keeps.below HB2.out).mono fun b hb hb'=>absurd hb (by omega)
       have k2:Keeps (fun b=>g b≠ .none) w2 w5:=(fM Dm.out).mono fun b _ hb=>by rw[show b=nb d from hb,hgd];simp
       have k3:Keeps (fun b=>g b≠ .none) w5 (w5.setCell ⟨ib id,2,none⟩ (.int .i64 (y.links+1))):=(Keeps.iG w5 ⟨ib id,2,none⟩ _).mono fun b _ hb=>by rw[show b=ib id from hb,hgi];simp
       exact(k1.trans k2 (fun _ _ h=>h)).trans k3 (fun _ _ h=>h)
    ·have hne:((aC T ls').2.2==0)=false:=by simpa using hp
     have hne2:((aC T ls').2.2 !=0)=true:=by simpa using hp
     have HM:Hid (dW T ls ls'=((aC T ls').2.2,T)):=by
      have:jM T ls ls'=(aC T ls').2.2:=by
       unfold jM
       rw[if_neg (by rw[xZ.out];simp),←HQ.out,if_neg (by simp),if_neg (by rw[aY HY.out];exact hk),if_pos hp]
      unfold dW;rw[this,if_neg hp];exact rfl
     have HP:=Lib.hid hp
     unfold mM at rR
     generalize aC T ls'=q at*
     clear hp hk
     go_enter Tryz.func68,Tryz.ntmps68
     go_wp2_with fail
     (with_reducible refine HF.out.mono ?_)
     rintro e w1 ⟨rfl,hb1⟩
     have HB1:=Lib.hid hb1
     clear hb1
     go_wp2_with fail
     (with_reducible refine(lJ.out w1 HB1.out).mono ?_)
     rintro e w2 ⟨rfl,rfl⟩
     obtain⟨c0,hmap,c1,c2⟩:=HIT.out w1 HB1.out
     have fE:=Lib.hid hmap
     clear hmap
     go_wp2_with (first|(at_lookup;refine aK aV rfl _ _ 104 107 rfl Tryz.underlying104 (Tryz.aT _) rfl fE.out id rfl hok ?_;rw[HG.out]))
     (with_reducible refine(rR.out w1 HB1.out).mono ?_)
     rintro e w2 ⟨rfl,hb2⟩
     rw[if_neg HP.out]
     have HB2:=Lib.hid (HB1.out.trans (hb2.mono HB1.out.size))
     clear hb2
     go_wp2_with fail
     go_ret
     rw[HM.out]
     exact Turn.same HH.out HB2.out rfl
  ·have hne:(e0==0)=false:=by simpa using he
   have hne2:(e0 !=0)=true:=by simpa using he
   have HM:Hid (dW T ls ls'=(e0,T)):=by
    have:jM T ls ls'=e0:=by
     unfold jM
     rw[if_neg (by rw[xZ.out];simp),←HQ.out,if_pos he]
    unfold dW;rw[this,if_neg he];exact rfl
   clear he
   go_enter Tryz.func68,Tryz.ntmps68
   go_wp2_with fail
   (with_reducible refine HF.out.mono ?_)
   rintro e w1 ⟨rfl,hb1⟩
   have HB1:=Lib.hid hb1
   clear hb1
   go_wp2_with fail
   (with_reducible refine(lJ.out w1 HB1.out).mono ?_)
   rintro e w2 ⟨rfl,rfl⟩
   go_wp2_with fail
   go_ret
   rw[HM.out]
   exact Turn.same HH.out HB1.out rfl
 ·have HM:Hid (dW T ls ls'=(iC ls ls',T)):=by
   have:jM T ls ls'=iC ls ls':=by unfold jM;rw[if_pos hf]
   unfold dW;rw[this,if_neg hf];exact rfl
  have hne:(iC ls ls'==0)=false:=by simpa using hf
  have hne2:(iC ls ls' !=0)=true:=by simpa using hf
  clear hf
  go_enter Tryz.func68,Tryz.ntmps68
  go_wp2_with fail
  (with_reducible refine HF.out.mono ?_)
  rintro e w1 ⟨rfl,hb1⟩
  go_wp2_with fail
  go_ret
  rw[HM.out]
  exact Turn.same HH.out hb1 rfl
end
theorem fB.del {T:aF} (h:fB T) {k:Int} {x:bA} (hx:ah k T=some x) (h0:k≠0) (hn:x.names=[]) (hc:eB T k=0):fB (bB k T):=by
 have hget:∀j y,ah j (bB k T)=some y→j≠k∧ah j T=some y:=fun j y hy=>by
  rw[dP]at hy
  by_cases hj:j=k
  ·rw[if_pos hj]at hy;cases hy
  ·rw[if_neg hj]at hy;exact⟨hj,hy⟩
 have hcn:∀j,cn j x=0:=fun j=>by unfold cn;rw[hn];rfl
 refine⟨⟨h.sorted.bB _,?_,fun j y hy=>h.each j y (hget j y hy).2,fun j y hy e he=> ?_,?_,fun j y hy=>h.ids j y (hget j y hy).2⟩,fun j y hy hj=> ?_⟩
 ·have hr:=h.root
  unfold bf at hr⊢
  rw[dP,if_neg (Ne.symm h0)]
  exact hr
 ·have h1:=h.leads j y (hget j y hy).2 e he
  have h2:=xw hc (hget j y hy).2 e he
  rw[dP,if_neg h2]
  exact h1
 ·have:=qy bW h.sorted hx
  have:=h.len
  omega
 ·have h1:=vG h.sorted hx j
  rw[hcn]at h1
  have h2:=h.counts j y (hget j y hy).2 hj
  omega
theorem fB.settle {T:aF} (h:fB T) {k:Int} (hk:k≠0) (hf:∀x,ah k T=some x→x.kind≠2):fB (eG T k):=by
 unfold eG
 cases hx:ah k T with
 |none=>exact h
 |some x=>
  simp only
  by_cases hc:x.links=0∧x.closed=true
  ·rw[if_pos hc]
   have hk1:=(h.each k x hx).kind.resolve_right (hf x hx)
   refine h.del hx hk ((h.each k x hx).file hk1) ?_
   have:=h.counts k x hx hk
   omega
  ·rw[if_neg hc];exact h
theorem fB.uh {T:aF} (h:fB T) {k:Int} {x:bA} (hx:ah k T=some x) (hk:x.kind≠2):k≠0:=by
 rintro rfl
 have:=h.root
 unfold bf at this
 rw[hx]at this
 exact hk this
theorem yh {T:aF} (hT:fB T) {ls:List Nm} {kind:Int} (h:jl T ls kind=0):bK ls=0∧(kind=1∨kind=2)∧(aC T ls).2.2=0∧ah (aC T ls).2.1 (aJ T (aC T ls).1)=none∧T.length<64:=by
 unfold jl at h
 by_cases h1:bK ls≠0
 ·rw[if_pos h1]at h;exact absurd h h1
 ·rw[if_neg h1]at h
  by_cases h2:¬(kind=1∨kind=2)
  ·rw[if_pos h2]at h;cases h
  ·rw[if_neg h2]at h
   by_cases h3:(aC T ls).2.2≠0
   ·rw[if_pos h3]at h;exact absurd h h3
   ·rw[if_neg h3]at h
    by_cases h4:(ah (aC T ls).2.1 (aJ T (aC T ls).1)).isSome=true
    ·rw[if_pos h4]at h;cases h
    ·rw[if_neg h4]at h
     by_cases h5:64≤T.length
     ·rw[if_pos h5]at h;cases h
     ·exact⟨by omega,Decidable.not_not.1 h2,by omega,by simpa using h4,by omega⟩
theorem fB.dQ {T:aF} (h:fB T) (ls:List Nm) (kind:Int):fB (dQ T ls kind).2:=by
 unfold Go.Proofs.YtjnhnlabpccgjaaGreat.dQ
 by_cases he:jl T ls kind=0
 ·rw[if_pos he]
  obtain⟨h1,h2,h3,h4,h5⟩:=yh h he
  obtain⟨x,hx,hk,hm⟩:=fV h h3
  obtain⟨f,hf,hf1,hf2,hfn,_⟩:=h.free
  have e1:aJ T (aC T ls).1=x.names:=by unfold aJ;rw[hx]
  rw[e1]at h4
  have hlen:=h.len
  show fB (qz T ls kind)
  unfold qz
  rw[hf]
  exact h.make h2 hfn (by omega) (by omega) h5 hx hk (h_ h1 _ hm) h4
 ·rw[if_neg he];exact h
theorem fB.dw {T:aF} (h:fB T) (id:Int) (b:List UInt8):fB (dw T id b).2:=by
 unfold Go.Proofs.YtjnhnlabpccgjaaGreat.dw
 by_cases he:jF T id b=0
 ·simp only[if_pos he]
  unfold jF at he
  cases hx:ah id T with
  |none=>rw[hx]at he;cases he
  |some x=>
   rw[hx]at he
   simp only at he
   by_cases hk:x.kind=2
   ·rw[if_pos hk]at he;cases he
   ·rw[if_neg hk]at he
    cases hc:x.closed with
    |true=>rw[hc]at he;cases he
    |false=>
     rw[hc]at he
     simp only[Bool.false_eq_true,if_false]at he
     by_cases hb:4096<x.b.length+b.length
     ·rw[if_pos hb]at he;cases he
     ·have ho:=h.each id x hx
      exact h.vH hx ⟨ho.kind,ho.file,fun h=>absurd h hk,fun _=>hc,ho.sorted,ho.good,by rw[List.length_append];omega,ho.links,ho.aO⟩ rfl rfl rfl
 ·simp only[if_neg he];exact h
theorem fB.fU {T:aF} (h:fB T) (id aO:Int) (h0:0≤aO):fB (fU T id aO).2:=by
 unfold Go.Proofs.YtjnhnlabpccgjaaGreat.fU
 by_cases he:pX T id aO=0
 ·simp only[if_pos he]
  unfold pX at he
  cases hx:ah id T with
  |none=>rw[hx]at he;cases he
  |some x=>
   rw[hx]at he
   simp only at he
   by_cases hk:x.kind=2
   ·rw[if_pos hk]at he;cases he
   ·rw[if_neg hk]at he
    cases hc:x.closed with
    |true=>rw[hc]at he;cases he
    |false=>
     rw[hc]at he
     simp only[Bool.false_eq_true,if_false]at he
     by_cases hb:1099511627776<aO
     ·rw[if_pos hb]at he;cases he
     ·have ho:=h.each id x hx
      have hk1:=ho.kind.resolve_right hk
      have hcnt:=h.counts id x hx (h.uh hx hk)
      by_cases hl:x.links=0
      ·have hn:=ho.file hk1
       have e:eG (Go.Proofs.YtjnhnlabpccgjaaGreat.aX id (fun x=>{x with closed:=true,aO:=aO}) T) id=bB id T:=by
        unfold eG
        rw[aS,if_pos rfl,hx]
        simp only[Option.map_some,hl,and_self,if_true]
        unfold bB Go.Proofs.YtjnhnlabpccgjaaGreat.aX
        clear hx ho hcnt he h
        induction T with
        |nil=>rfl
        |cons y r ih=>
         rw[List.map_cons,List.filter_cons,List.filter_cons,ih]
         by_cases hy:y.1=id<;>simp[hy]
       rw[e]
       exact h.del hx (h.uh hx hk) hn (by omega)
      ·have hs:fB (Go.Proofs.YtjnhnlabpccgjaaGreat.aX id (fun x=>{x with closed:=true,aO:=aO}) T):=
        h.vH hx ⟨ho.kind,ho.file,fun h=>absurd h hk,fun h=>absurd h hl,ho.sorted,ho.good,ho.size,ho.links,⟨h0,by simp only;omega⟩⟩ rfl rfl rfl
       exact hs.settle (h.uh hx hk) (fun y hy=>by
        rw[aS,if_pos rfl,hx]at hy
        simp only[Option.map_some,Option.some.injEq]at hy
        rw[←hy]
        exact hk)
 ·simp only[if_neg he];exact h
theorem fB.fG {T:aF} (h:fB T) (id aO:Int) (h0:0≤aO):fB (fG T id aO).2:=by
 unfold Go.Proofs.YtjnhnlabpccgjaaGreat.fG
 by_cases he:pY T id aO=0
 ·simp only[if_pos he]
  unfold pY at he
  cases hx:ah id T with
  |none=>rw[hx]at he;cases he
  |some x=>
   rw[hx]at he
   simp only at he
   by_cases hk:x.kind=2
   ·rw[if_pos hk]at he;cases he
   ·rw[if_neg hk]at he
    by_cases hc:x.closed=false
    ·rw[if_pos hc]at he;cases he
    ·rw[if_neg hc]at he
     by_cases hb:aO<x.aO
     ·rw[if_pos hb]at he;cases he
     ·rw[if_neg hb]at he
      by_cases hb:1099511627776<aO
      ·rw[if_pos hb]at he;cases he
      ·have ho:=h.each id x hx
       exact h.vH hx ⟨ho.kind,ho.file,fun h=>absurd h hk,ho.gone,ho.sorted,ho.good,ho.size,ho.links,⟨h0,by simp only;omega⟩⟩ rfl rfl rfl
 ·simp only[if_neg he];exact h
theorem yj {T:aF} {p tq:List Nm} (h:jM T p tq=0):iC p tq=0∧(aA T 0 p).2=0∧bf T (aA T 0 p).1≠2∧(aC T tq).2.2=0∧ah (aC T tq).2.1 (aJ T (aC T tq).1)=none∧oL T (aA T 0 p).1<64:=by
 unfold jM at h
 by_cases h1:iC p tq≠0
 ·rw[if_pos h1]at h;exact absurd h h1
 ·rw[if_neg h1]at h
  by_cases h2:(aA T 0 p).2≠0
  ·rw[if_pos h2]at h;exact absurd h h2
  ·rw[if_neg h2]at h
   by_cases h3:bf T (aA T 0 p).1=2
   ·rw[if_pos h3]at h;cases h
   ·rw[if_neg h3]at h
    by_cases h4:(aC T tq).2.2≠0
    ·rw[if_pos h4]at h;exact absurd h h4
    ·rw[if_neg h4]at h
     by_cases h5:(ah (aC T tq).2.1 (aJ T (aC T tq).1)).isSome=true
     ·rw[if_pos h5]at h;cases h
     ·rw[if_neg h5]at h
      by_cases h6:64≤oL T (aA T 0 p).1
      ·rw[if_pos h6]at h;cases h
      ·exact⟨by omega,by omega,h3,by omega,by simpa using h5,by omega⟩
theorem mP {p q:List Nm} (h:iC p q=0):bK p=0∧bK q=0:=by
 unfold iC at h
 split at h
 ·rename_i h1;exact absurd h h1
 ·exact⟨by omega,h⟩
theorem fB.dW {T:aF} (h:fB T) (p tq:List Nm):fB (dW T p tq).2:=by
 unfold Go.Proofs.YtjnhnlabpccgjaaGreat.dW
 by_cases he:jM T p tq=0
 ·simp only[if_pos he]
  obtain⟨h1,h2,h3,h4,h5,h6⟩:=yj he
  obtain⟨x,hx,hk,hm⟩:=fV h h4
  obtain⟨y,hy⟩:=Option.isSome_iff_exists.1 (eF h p 0 (dH h) h2)
  have e1:aJ T (aC T tq).1=x.names:=by unfold aJ;rw[hx]
  have e2:oL T (aA T 0 p).1=y.links:=by unfold oL;rw[hy]
  rw[e1]at h5
  rw[e2]at h6
  rw[aY hy]at h3
  exact h.link hx hk (h_ (mP h1).2 _ hm) h5 hy h3 h6 (h.uh hy h3)
 ·simp only[if_neg he];exact h
def Dn (W:World) (P:Nat→Prop) (x:Nat):Prop:=W.heap.size≤x∧¬P x
structure cO (W:World) (P:Nat→Prop) (w:World) (p:Nat) (T:aF):Prop where
 at_:∃g D mb ib nb,aH g D w p mb ib nb T∧∀b,g b≠ .none∨D b→W.heap.size≤b∧¬P b
 ok:fB T
 below:Below W.heap.size W w
 low:∀x,P x→x<w.heap.size
structure jf (W:World) (P:Nat→Prop) (w:World) (p:Nat) (T:aF):Prop where
 at_:∃g D mb ib nb,aH g D w p mb ib nb T∧∀b,g b≠ .none∨D b→W.heap.size≤b∧¬P b
 ok:OkW T
 below:Below W.heap.size W w
theorem jf.grow {W w w':World} {P:Nat→Prop} {p:Nat} {T:aF} (h:jf W P w p T) (hb:Below w.heap.size w w'):jf W P w' p T:=by
 obtain⟨g,D,mb,ib,nb,hA,hF⟩:=h.at_
 exact⟨⟨g,D,mb,ib,nb,hA.below hb (Nat.le_refl _),hF⟩,h.ok,h.below.trans (hb.mono h.below.size)⟩
theorem cO.w {W w:World} {P:Nat→Prop} {p:Nat} {T:aF} (h:cO W P w p T):jf W P w p T:=⟨h.at_,h.ok.w,h.below⟩
instance {W w:World} {P:Nat→Prop} {p:Nat} {T:aF}:Coe (cO W P w p T) (jf W P w p T):=⟨cO.w⟩
theorem cO.grow {W w w':World} {P:Nat→Prop} {p:Nat} {T:aF} (h:cO W P w p T) (hb:Below w.heap.size w w'):cO W P w' p T:=by
 obtain⟨g,D,mb,ib,nb,hA,hF⟩:=h.at_
 exact⟨⟨g,D,mb,ib,nb,hA.below hb (Nat.le_refl _),hF⟩,h.ok,h.below.trans (hb.mono h.below.size),fun x hx=>Nat.lt_of_lt_of_le (h.low x hx) hb.size⟩
theorem cO.B_ {W w w':World} {P:Nat→Prop} {p:Nat} {T:aF} (h:cO W P w p T) (hb:Below w.heap.size w w'):cO W (fun x=>P x∨(w.heap.size≤x∧x<w'.heap.size)) w' p T:=by
 have h1:=h.grow hb
 obtain⟨g,D,mb,ib,nb,hA,hF⟩:=h.at_
 refine⟨⟨g,D,mb,ib,nb,hA.below hb (Nat.le_refl _),fun x hx=>⟨(hF x hx).1,fun hp=> ?_⟩⟩,h.ok,h1.below,fun x hx=> ?_⟩
 ·rcases hp with hp|hp
  ·exact(hF x hx).2 hp
  ·rcases hx with hx|hx
   ·have:=hA.low x hx;omega
   ·have:=hA.oO x hx;omega
 ·rcases hx with hx|hx
  ·exact h1.low x hx
  ·exact hx.2
theorem cO.mono {W w:World} {P Q:Nat→Prop} {p:Nat} {T:aF} (h:cO W P w p T) (hq:∀x,Q x→P x):cO W Q w p T:=by
 obtain⟨g,D,mb,ib,nb,hA,hF⟩:=h.at_
 exact⟨⟨g,D,mb,ib,nb,hA,fun x hx=>⟨(hF x hx).1,fun h=>(hF x hx).2 (hq x h)⟩⟩,h.ok,h.below,fun x hx=>h.low x (hq x hx)⟩
def dR (W:World) (P:Nat→Prop) (w:World) (p:Nat) (T:aF) (v:Value) (e:Ending) (w':World):Prop:=
 e= .returned v∧cO W P w' p T∧Keeps (Dn W P) w w'
theorem cO.lZ {W w w':World} {P:Nat→Prop} {p mb:Nat} {T':aF} {v:Value} {e:Ending} {g:Nat→Own} {D:Nat→Prop} (hF:∀b,g b≠ .none∨D b→W.heap.size≤b∧¬P b) (hB:Below W.heap.size W w) (hP:∀x,P x→x<w.heap.size) (ht:Turn g D w p mb T' v e w') (hok:fB T'):dR W P w p T' v e w':=by
 obtain⟨rfl,g',D',Tn,nb',hA',hg',hD',hK⟩:=ht
 have hs:=hB.size
 refine⟨rfl,⟨⟨g',D',mb,Tn,nb',hA',fun b hb=> ?_⟩,hok,hB.trans (hK.iU hs fun x hx hgx=>by have:=(hF x (.inl hgx)).1;omega),fun x hx=>Nat.lt_of_lt_of_le (hP x hx) hK.size⟩,hK.mono fun x _ hx=>hF x (.inl hx)⟩
 have key:(g b≠ .none∨D b)∨w.heap.size≤b:=by
  rcases hb with hb|hb
  ·rcases hg' b hb with h|h
   ·exact .inl (.inl h)
   ·exact .inr h
  ·rcases hD' b hb with h|h
   ·exact .inl (.inr h)
   ·exact .inr h
 rcases key with h|h
 ·exact hF b h
 ·exact⟨by omega,fun hp=>by have:=hP b hp;omega⟩
section
variable {W w:World} {P:Nat→Prop} {p:Nat} {T:aF}
theorem Ca {S:Nat→Prop} (h:cO W P w p T) (a:Option Addr) (n c:Nat) (ls:List Nm) (kind:Int) (hS:aP S w a n (ls.map strOf)) (hc:n≤c) (oP:n≤1000000):
  Calls Tryz.prog 27 #[ptr p, .slice a n c, .int .i64 kind] w (dR W P w p (dQ T ls kind).2 (.tuple #[.int .i64 (dQ T ls kind).1.1, .int .i64 (dQ T ls kind).1.2])):=by
 obtain⟨g,D,mb,ib,nb,hA,hF⟩:=h.at_
 exact(Ol a n c ls kind w hA h.ok hS hc oP).mono fun e w' ht=>cO.lZ hF h.below h.low ht (h.ok.dQ _ _)
theorem H8 {S S':Nat→Prop} (h:cO W P w p T) (a:Option Addr) (n c:Nat) (ls:List Nm) (a':Option Addr) (n' c':Nat) (ls':List Nm) (hS:aP S w a n (ls.map strOf)) (hS':aP S' w a' n' (ls'.map strOf)) (hc':n'≤c') (oP:n'≤1000000):
  Calls Tryz.prog 68 #[ptr p, .slice a n c, .slice a' n' c'] w (dR W P w p (dW T ls ls').2 (.int .i64 (dW T ls ls').1)):=by
 obtain⟨g,D,mb,ib,nb,hA,hF⟩:=h.at_
 exact(Oy a n c ls a' n' c' ls' w hA h.ok hS hS' hc' oP).mono fun e w' ht=>cO.lZ hF h.below h.low ht (h.ok.dW _ _)
theorem Je {S:Nat→Prop} (h:cO W P w p T) (id:Int) (a:Option Addr) (l c:Nat) (bs:List UInt8) (hid:(Lit.int .i64 id).wf=true) (hr:aj S w a l (bs.map bv)) (hl:l≤1000000000):
  Calls Tryz.prog 29 #[ptr p, .int .i64 id, .slice a l c] w (dR W P w p (dw T id bs).2 (.int .i64 (dw T id bs).1)):=by
 obtain⟨g,D,mb,ib,nb,hA,hF⟩:=h.at_
 exact(Jd id a l c bs w hA (fun x hx=>(h.ok.each id x hx).size) hid hr hl).mono fun e w' ht=>cO.lZ hF h.below h.low ht (h.ok.dw _ _)
theorem OA (h:cO W P w p T) (id aO:Int) (hid:(Lit.int .i64 id).wf=true) (ht0:0≤aO) (ht1:aO≤18446744073709551615):
  Calls Tryz.prog 31 #[ptr p, .int .i64 id, .int .u64 aO] w (dR W P w p (fU T id aO).2 (.int .i64 (fU T id aO).1)):=by
 obtain⟨g,D,mb,ib,nb,hA,hF⟩:=h.at_
 exact(Ot id aO w hA hid ht0 ht1).mono fun e w' ht=>cO.lZ hF h.below h.low ht (h.ok.fU _ _ ht0)
theorem OB (h:cO W P w p T) (id aO:Int) (hid:(Lit.int .i64 id).wf=true) (ht0:0≤aO) (ht1:aO≤18446744073709551615):
  Calls Tryz.prog 109 #[ptr p, .int .i64 id, .int .u64 aO] w (dR W P w p (fG T id aO).2 (.int .i64 (fG T id aO).1)):=by
 obtain⟨g,D,mb,ib,nb,hA,hF⟩:=h.at_
 exact(Ou id aO w hA hid ht0 ht1 (fun x hx=>(h.ok.each id x hx).aO)).mono fun e w' ht=>cO.lZ hF h.below h.low ht (h.ok.fG _ _ ht0)
theorem OC (h:cO W P w p T) (id at_ n:Int) (hid:(Lit.int .i64 id).wf=true) (hA:(Lit.int .i64 at_).wf=true) (hN:(Lit.int .i64 n).wf=true):
  Calls Tryz.prog 107 #[ptr p, .int .i64 id, .int .i64 at_, .int .i64 n] w (uf w (nO T id at_ n) (nN T id at_ n)):=by
 obtain⟨g,D,mb,ib,nb,hAt,hF⟩:=h.at_
 exact Lj id at_ n w hAt (fun x hx=>(h.ok.each id x hx).size) hid hA hN
theorem AA (h:jf W P w p T) (id:Int) (hid:(Lit.int .i64 id).wf=true):
  Calls Tryz.prog 65 #[ptr p, .int .i64 id] w fun e w'=>e= .returned (.tuple #[iD T id, .bool (ah id T).isSome])∧Below w.heap.size w w':=by
 obtain⟨g,D,mb,ib,nb,hAt,hF⟩:=h.at_
 exact Le id w hAt hid
theorem H9 (h:cO W P w p T) (id:Int) (hid:(Lit.int .i64 id).wf=true):
  Calls Tryz.prog 65 #[ptr p, .int .i64 id] w fun e w'=>e= .returned (.tuple #[iD T id, .bool (ah id T).isSome])∧Below w.heap.size w w':=AA h.w id hid
theorem yt (h:jf W P w p T):Calls Tryz.prog 64 #[ptr p] w fun e w'=>e= .returned (.int .i64 T.length)∧w=w':=by
 obtain⟨g,D,mb,ib,nb,hAt,hF⟩:=h.at_
 exact I5 w hAt
theorem Dp (h:cO W P w p T):Calls Tryz.prog 64 #[ptr p] w fun e w'=>e= .returned (.int .i64 T.length)∧w=w':=yt h.w
theorem Lp (W w:World) (hB:Below W.heap.size W w):Calls Tryz.prog 23 #[] w fun e w'=>∃p,e= .returned (ptr p)∧cO W (fun x=>x<w.heap.size) w' p nM∧Below w.heap.size w w':=by
 refine(Ox w).mono ?_
 rintro e w' ⟨g,mb,ib,nb,p,rfl,hA,hg,hb⟩
 have hs:=hB.size
 refine⟨p,rfl,⟨⟨g,_,mb,ib,nb,hA,fun b hb=> ?_⟩,Hz,hB.trans (hb.mono hs),fun x hx=>Nat.lt_of_lt_of_le hx hb.size⟩,hb⟩
 rcases hb with hb|hb
 ·have:=hg b hb;omega
 ·exact hb.elim
end
theorem fO (T:aF):∀(p q:List Nm) (a:Int),aA T a (p++q)=if (aA T a p).2=0 then aA T (aA T a p).1 q else aA T a p
 |[],q,a=>by simp[aA]
 |n::r,q,a=>by
  rcases Option.eq_none_or_eq_some (ah a T)with hx|⟨x,hx⟩
  ·simp[aA,hx]
  ·by_cases hk:x.kind=2
   ·rcases Option.eq_none_or_eq_some (ah n x.names)with hn|⟨k,hn⟩
    ·simp[aA,hx,hk,hn]
    ·simp only[List.cons_append,aA,hx,if_pos hk,hn]
     exact fO T r q k
   ·simp[aA,hx,hk]
theorem bQ {T:aF} {p:List Nm} {id:Int} (h:aA T 0 p=(id,0)) (hp:p≠[]):∃d x n,aC T p=(d,n,0)∧aA T 0 p.dropLast=(d,0)∧ah d T=some x∧x.kind=2∧ah n x.names=some id∧n∈p∧p=p.dropLast++[n]:=by
 obtain⟨q,n,rfl⟩:∃q n,p=q++[n]:=⟨p.dropLast,p.getLast hp,(List.dropLast_concat_getLast hp).symm⟩
 rw[fO]at h
 have hd:(q++[n]).dropLast=q:=by simp
 have hl:(q++[n]).getLastD []=n:=by simp[List.getLastD_eq_getLast?]
 by_cases he:(aA T 0 q).2=0
 ·rw[if_pos he]at h
  obtain⟨⟨d,e0⟩,hq⟩:∃r,r=aA T 0 q:=⟨_,rfl⟩
  rw[←hq]at h he
  simp only at he
  subst he
  simp only[aA]at h
  cases hx:ah d T with
  |none=>rw[hx]at h;cases h
  |some x=>
   rw[hx]at h
   simp only at h
   by_cases hk:x.kind=2
   ·rw[if_pos hk]at h
    cases hn:ah n x.names with
    |none=>rw[hn]at h;cases h
    |some k=>
     rw[hn]at h
     simp only[Prod.mk.injEq,and_true]at h
     subst h
     refine⟨d,x,n,?_,by rw[hd,←hq],hx,hk,hn,by simp,by rw[hd]⟩
     unfold aC
     rw[if_neg hp,hd,hl,←hq,if_neg (by simp),if_pos ((aY hx).trans hk)]
   ·rw[if_neg hk]at h;cases h
 ·rw[if_neg he]at h
  rw[h]at he
  exact absurd rfl he
theorem Lr {α:Type} {κ:Type} [DecidableEq κ] {lt:κ→κ→Bool} (L:mI lt) (P:κ×α→Bool) {l:List (κ×α)} (hs:aI lt l) {k:κ} {v:α} (hg:ah k l=some v):(bB k l).countP P+(if P (k,v)then 1 else 0)=l.countP P:=by
 induction l with
 |nil=>cases hg
 |cons y r ih=>
  have hp:=hs.apart L
  obtain⟨h1,h2⟩:=List.pairwise_cons.1 hp
  rw[eU]at hg
  have TW:bB k (y::r)=if y.1=k then bB k r else y::bB k r:=by
   unfold bB
   rw[List.filter_cons]
   by_cases hy:y.1=k<;>simp[hy]
  rw[TW]
  by_cases hy:y.1=k
  ·rw[if_pos hy]at hg
   rw[if_pos hy]
   cases hg
   have hr:bB k r=r:=by
    unfold bB
    rw[List.filter_eq_self]
    intro q hq
    have:=h1 q hq
    simp only[Bool.not_eq_true',decide_eq_false_iff_not]
    exact fun e=>this (hy.trans e.symm)
   have e:(k,y.2)=y:=by rw[←hy]
   rw[hr,List.countP_cons,e]
  ·rw[if_neg hy]at hg
   rw[if_neg hy,List.countP_cons,List.countP_cons]
   have:=ih (List.pairwise_cons.1 hs).2 hg
   omega
theorem Rk {x:bA} (h:Fx x) {n:Nm} {id:Int} (hn:ah n x.names=some id) (k:Int):cn k {x with names:=bB n x.names}+(if id=k then 1 else 0)=cn k x:=by
 have:=Lr nk (fun e:Nm×Int=>decide (e.2=k)) h.sorted hn
 unfold cn
 simp only[decide_eq_true_eq]at this
 exact this
theorem OD {x:bA} (h:Fw x) (n:Nm) (hk:x.kind=2):Fw {x with names:=bB n x.names}:=by
 refine⟨h.kind,fun h1=> ?_,h.dir,h.gone,h.sorted.bB _,fun e he=>h.good e (List.mem_filter.1 he).1,h.size,h.links,h.aO⟩
 have:x.kind=1:=h1
 omega
theorem rz.cut {T:aF} (h:rz T) {d:Int} {x:bA} {n:Nm} (hx:ah d T=some x) (hk:x.kind=2):rz (ak T d n):=
 h.aX hx (OD (h.each d x hx) n hk) rfl (fun e he=>h.leads d x hx e (List.mem_filter.1 he).1)
theorem xU.del {T:aF} (h:xU T) {k:Int} {x:bA} (hx:ah k T=some x) (h0:k≠0) (hc:eB T k=0):xU (bB k T):=by
 have hget:∀j y,ah j (bB k T)=some y→j≠k∧ah j T=some y:=fun j y hy=>by
  rw[dP]at hy
  by_cases hj:j=k
  ·rw[if_pos hj]at hy;cases hy
  ·rw[if_neg hj]at hy;exact⟨hj,hy⟩
 refine⟨h.sorted.bB _,?_,fun j y hy=>h.each j y (hget j y hy).2,fun j y hy e he=> ?_,?_,fun j y hy=>h.ids j y (hget j y hy).2⟩
 ·have hr:=h.root
  unfold bf at hr⊢
  rw[dP,if_neg (Ne.symm h0)]
  exact hr
 ·have h1:=h.leads j y (hget j y hy).2 e he
  have h2:=xw hc (hget j y hy).2 e he
  rw[dP,if_neg h2]
  exact h1
 ·have:=qy bW h.sorted hx
  have:=h.len
  omega
theorem rz.del {T:aF} (h:rz T) {k:Int} {x:bA} (hx:ah k T=some x) (h0:k≠0) (hc:eB T k=0):rz (bB k T):=
 rz.Q8 (h.w.del hx h0 hc) fun j y hy=>by
  rw[dP]at hy
  by_cases hj:j=k
  ·rw[if_pos hj]at hy;cases hy
  ·rw[if_neg hj]at hy;exact(h.each j y hy).links.2
theorem nW {T:aF} (h:xU T) {d id:Int} {x:bA} {n:Nm} (hx:ah d T=some x) (hn:ah n x.names=some id) (j:Int):eB (ak T d n) j+(if id=j then 1 else 0)=eB T j:=by
 have h1:=kH h.sorted (fun x=>{x with names:=bB n x.names}) hx j
 have h2:=Rk (h.each d x hx) hn j
 unfold ak
 omega
theorem Cb {T:aF} {d j:Int} {n:Nm} {y:bA} (hy:ah j (ak T d n)=some y):∃z,ah j T=some z∧y.links=z.links∧y.kind=z.kind∧y.closed=z.closed∧y.b=z.b∧(j≠d→y=z):=by
 unfold ak at hy
 rw[aS]at hy
 by_cases hj:j=d
 ·rw[if_pos hj]at hy
  cases hz:ah j T with
  |none=>rw[hz]at hy;cases hy
  |some z=>
   rw[hz]at hy
   simp only[Option.map_some,Option.some.injEq]at hy
   subst hy
   exact⟨z,rfl,rfl,rfl,rfl,rfl,fun h=>absurd hj h⟩
 ·rw[if_neg hj]at hy
  exact⟨y,hy,rfl,rfl,rfl,rfl,fun _=>rfl⟩
theorem fB.H_ {T:aF} (h:fB T) {d id:Int} {x y:bA} {n:Nm} (hx:ah d T=some x) (hk:x.kind=2) (hn:ah n x.names=some id) (hy:ah id T=some y) (hid:id≠d) (h0:id≠0) (hyn:y.names=[]) (hl:y.links=1):fB (bB id (ak T d n)):=by
 have hP:=h.torz.cut (n:=n) hx hk
 have hy1:ah id (ak T d n)=some y:=by unfold ak;rw[aS,if_neg hid];exact hy
 have hc:=h.counts id y hy h0
 have h1:=nW h.torz hx hn id
 rw[if_pos rfl]at h1
 refine⟨hP.del hy1 h0 (by omega),fun j z hz hj=> ?_⟩
 have hji:j≠id:=fun e=>by subst e;rw[mH]at hz;cases hz
 rw[dP,if_neg hji]at hz
 obtain⟨z',hz',hl',_⟩:=Cb hz
 have h2:=nW h.torz hx hn j
 rw[if_neg (Ne.symm hji)]at h2
 have h3:=vG hP.sorted hy1 j
 have h4:cn j y=0:=by unfold cn;rw[hyn];rfl
 have:=h.counts j z' hz' hj
 omega
theorem fB.Lu {T:aF} (h:fB T) {d id:Int} {x y:bA} {n:Nm} (hx:ah d T=some x) (hk:x.kind=2) (hn:ah n x.names=some id) (hy:ah id T=some y) (hyk:y.kind≠2):
  fB (eG (Go.Proofs.YtjnhnlabpccgjaaGreat.aX id (fun x=>{x with links:=x.links-1}) (ak T d n)) id):=by
 have hoy:=h.each id y hy
 have h0:=h.uh hy hyk
 have hid:id≠d:=fun e=>by subst e;rw[hx]at hy;cases hy;exact hyk hk
 have hk1:=hoy.kind.resolve_right hyk
 have hyn:=hoy.file hk1
 have hP:=h.torz.cut (n:=n) hx hk
 have hy1:ah id (ak T d n)=some y:=by unfold ak;rw[aS,if_neg hid];exact hy
 have hg:ah id (Go.Proofs.YtjnhnlabpccgjaaGreat.aX id (fun x=>{x with links:=x.links-1}) (ak T d n))=some {y with links:=y.links-1}:=by rw[aS,if_pos rfl,hy1];rfl
 have hcy:=h.counts id y hy h0
 have h1:=nW h.torz hx hn id
 rw[if_pos rfl]at h1
 unfold eG
 rw[hg]
 simp only
 by_cases hc:y.links-1=0∧y.closed=true
 ·rw[if_pos hc]
  have e:bB id (Go.Proofs.YtjnhnlabpccgjaaGreat.aX id (fun x=>{x with links:=x.links-1}) (ak T d n))=bB id (ak T d n):=by
   generalize ak T d n=L
   unfold bB Go.Proofs.YtjnhnlabpccgjaaGreat.aX
   induction L with
   |nil=>rfl
   |cons y r ih=>
    rw[List.map_cons,List.filter_cons,List.filter_cons,ih]
    by_cases hy:y.1=id<;>simp[hy]
  rw[e]
  exact h.H_ hx hk hn hy hid h0 hyn (by omega)
 ·rw[if_neg hc]
  refine⟨hP.aX (f:=fun x=>{x with links:=x.links-1}) hy1 ⟨hoy.kind,hoy.file,fun h=>absurd h hyk,fun h=> ?_,hoy.sorted,hoy.good,hoy.size,?_,hoy.aO⟩ rfl (hP.leads id y hy1),fun j z hz hj=> ?_⟩
  ·cases hcl:y.closed with
   |true=>exact absurd ⟨h,hcl⟩ hc
   |false=>rfl
  ·have:=hoy.links
   simp only
   omega
  ·have h3:=kH hP.sorted (fun x=>{x with links:=x.links-1}) hy1 j
   have h3':cn j {y with links:=y.links-1}=cn j y:=rfl
   have h4:=nW h.torz hx hn j
   rw[aS]at hz
   by_cases hji:j=id
   ·subst hji
    rw[if_pos rfl,hy1]at hz
    simp only[Option.map_some,Option.some.injEq]at hz
    rw[if_pos rfl]at h4
    rw[←hz]
    simp only
    omega
   ·rw[if_neg hji]at hz
    rw[if_neg (Ne.symm hji)]at h4
    obtain⟨z',hz',hl',_⟩:=Cb hz
    have:=h.counts j z' hz' hj
    omega
theorem Cc {T:aF} {p:List Nm} (h:gQ T p=0):bK p=0∧(aA T 0 p).2=0∧bf T (aA T 0 p).1≠2:=by
 unfold gQ dY at h
 by_cases h1:bK p≠0
 ·rw[if_pos h1]at h
  simp only[if_pos h1]at h
  exact absurd h h1
 ·rw[if_neg h1]at h
  by_cases h2:(aA T 0 p).2≠0
  ·rw[if_pos h2]at h;exact absurd h h2
  ·rw[if_neg h2]at h
   by_cases h3:bf T (aA T 0 p).1=2
   ·rw[if_pos h3]at h;cases h
   ·exact⟨by omega,by omega,h3⟩
theorem fB.b_ {T:aF} (h:fB T) (p:List Nm):fB (b_ T p).2:=by
 unfold Go.Proofs.YtjnhnlabpccgjaaGreat.b_
 by_cases he:gQ T p=0
 ·simp only[if_pos he]
  obtain⟨h1,h2,h3⟩:=Cc he
  obtain⟨y,hy⟩:=Option.isSome_iff_exists.1 (eF h p 0 (dH h) h2)
  have hp:p≠[]:=fun e=>by subst e;exact h3 h.root
  obtain⟨d,x,n,e1,_,hx,hk,hn,_⟩:=bQ (id:=(aA T 0 p).1) (Prod.ext rfl h2) hp
  rw[aY hy]at h3
  unfold nP
  rw[e1]
  exact h.Lu hx hk hn hy h3
 ·simp only[if_neg he];exact h
theorem Dq {T:aF} {p:List Nm} (h:g_ T p=0):bK p=0∧(aA T 0 p).2=0∧bf T (aA T 0 p).1=2∧(aA T 0 p).1≠0∧aJ T (aA T 0 p).1=[]:=by
 unfold g_ dY at h
 by_cases h1:bK p≠0
 ·rw[if_pos h1]at h
  simp only[if_pos h1]at h
  exact absurd h h1
 ·rw[if_neg h1]at h
  by_cases h2:(aA T 0 p).2≠0
  ·rw[if_pos h2]at h;exact absurd h h2
  ·rw[if_neg h2]at h
   by_cases h3:bf T (aA T 0 p).1≠2
   ·rw[if_pos h3]at h;cases h
   ·rw[if_neg h3]at h
    by_cases h4:(aA T 0 p).1=0
    ·rw[if_pos h4]at h;cases h
    ·rw[if_neg h4]at h
     by_cases h5:0<(aJ T (aA T 0 p).1).length
     ·rw[if_pos h5]at h;cases h
     ·exact⟨by omega,by omega,by omega,h4,List.eq_nil_of_length_eq_zero (by omega)⟩
theorem fB.dF {T:aF} (h:fB T) (p:List Nm):fB (dF T p).2:=by
 unfold Go.Proofs.YtjnhnlabpccgjaaGreat.dF
 by_cases he:g_ T p=0
 ·simp only[if_pos he]
  obtain⟨h1,h2,h3,h4,h5⟩:=Dq he
  obtain⟨y,hy⟩:=Option.isSome_iff_exists.1 (eF h p 0 (dH h) h2)
  have hp:p≠[]:=fun e=>by subst e;exact h4 rfl
  obtain⟨d,x,n,e1,_,hx,hk,hn,_⟩:=bQ (id:=(aA T 0 p).1) (Prod.ext rfl h2) hp
  have hyn:y.names=[]:=by unfold aJ at h5;rw[hy]at h5;exact h5
  rw[aY hy]at h3
  unfold tO
  rw[e1]
  refine h.H_ hx hk hn hy (fun e=> ?_) h4 hyn ((h.each _ y hy).dir h3).1
  rw[e,hx]at hy
  cases hy
  rw[hyn]at hn
  cases hn
 ·simp only[if_neg he];exact h
end Go.Proofs.YtjnhnlabpccgjaaGreat
