/- tree: Look, Unlink, Rmdir. tree: deep. How deep a tree is; Rename, as plain data. -/
import Derived.Test.YtjnhnlabpccgjaaGreatM12
namespace Go.Proofs.YtjnhnlabpccgjaaGreat
open Go.ChangeShapes Go.WideShapes Go.ChangeAt Go.RowKit
set_option linter.unusedVariables false
set_option linter.unusedSimpArgs false
section
variable {g:Nat→Own} {D:Nat→Prop} {p mb:Nat} {ib nb:Int→Nat} {T:aF}
set_option maxHeartbeats 2000000 in
theorem OE {S:Nat→Prop} (a:Option Addr) (n c:Nat) (ls:List Nm) (w:World) (h:aH g D w p mb ib nb T) (hT:OkW T) (hS:aP S w a n (ls.map strOf)):
  Calls Tryz.prog 67 #[ptr p, .slice a n c] w fun e w'=>e= .returned (.tuple #[.int .i64 (dY T ls).1, .int .i64 (dY T ls).2])∧Below w.heap.size w w':=by
 have HF:=Lib.hid (t_ (S:=S) a n c ls w hS)
 have lJ:=Lib.hid (fun w1 (hb:Below w.heap.size w w1)=>nS a n c ls w1 (h.below hb (Nat.le_refl _)) hT (hS.below hb (Nat.le_refl _)))
 clear h hT hS
 by_cases hf:bK ls=0
 ·have HE:Hid (dY T ls=aA T 0 ls):=by unfold dY;rw[if_neg (by rw[hf];simp)];exact rfl
  rw[hf]at HF
  clear hf
  go_enter Tryz.func67,Tryz.ntmps67
  go_wp2_with fail
  (with_reducible refine HF.out.mono ?_)
  rintro e w1 ⟨rfl,hb1⟩
  have HB1:=Lib.hid hb1
  clear hb1
  go_wp2_with fail
  (with_reducible refine(lJ.out w1 HB1.out).mono ?_)
  rintro e w2 ⟨rfl,rfl⟩
  go_wp2_with fail
  go_ret2
  rw[HE.out]
  exact⟨rfl,HB1.out⟩
 ·have HE:Hid (dY T ls=(0,bK ls)):=by unfold dY;rw[if_pos hf];exact rfl
  have hne:(bK ls==0)=false:=by simpa using hf
  have hne2:(bK ls !=0)=true:=by simpa using hf
  clear hf
  go_enter Tryz.func67,Tryz.ntmps67
  go_wp2_with fail
  (with_reducible refine HF.out.mono ?_)
  rintro e w1 ⟨rfl,hb1⟩
  have HB1:=Lib.hid hb1
  clear hb1
  go_wp2_with fail
  go_ret2
  rw[HE.out]
  exact⟨rfl,HB1.out⟩
theorem yu {S:Nat→Prop} {d:Int} {nm:Nm} (a:Option Addr) (n c:Nat) (ls:List Nm) (w:World) (h:aH g D w p mb ib nb T) (hT:fB T) (hS:aP S w a n (ls.map strOf)) (hc:n≤c) (oP:n≤1000000) (hp:aC T ls=(d,nm,0)):
  Calls Tryz.prog 71 #[ptr p, .slice a n c] w fun e w'=>e= .returned (.tuple #[ptr (ib d), .string (strOf nm), .int .i64 0])∧Below w.heap.size w w':=by
 have:=rC a n c ls w h hT hS hc oP
 unfold mM at this
 rw[hp]at this
 exact this
theorem jN {w:World} {d:Int} {x:bA} (h:aH g D w p mb ib nb T) (hx:ah d T=some x) (hk:x.kind=2):w.cell? ⟨ib d,7,none⟩=some (.map (some (nb d)))∧MapAt cK w (nb d) (bL x):=by
 have hi:=h.item d x hx
 obtain⟨_,_,_,_,_,_,c7,_⟩:=hi.cell
 unfold fD at c7
 rw[if_pos hk]at c7
 exact⟨c7,hi.names hk⟩
theorem Lv {nm:Nm} (h:bV nm=true):cK.ok nm:=by
 have:=nT nm h
 show nm.length≤maxLen
 unfold maxLen;omega
theorem Ce {w w':World} {d:Int} {x:bA} {n:Nm} (h:aH g D w p mb ib nb T) (hx:ah d T=some x) (hk:x.kind=2) (hM:MapAt cK w' (nb d) (bB n (bL x))) (hT:w.mapTurned w' (nb d)):aH g D w' p mb ib nb (ak T d n)∧Keeps (fun b=>g b≠ .none) w w':=
 ⟨h.cut hx hk hM hT,(fM hT).mono fun b _ hb=>by rw[show b=nb d from hb,h.kG d x hx hk];simp⟩
theorem jO {w w':World} {fp:Nat→Prop} (hb:Below w.heap.size w w'):Keeps fp w w':=(Keeps.below hb).mono fun b hb hb'=>absurd hb (by omega)
set_option maxRecDepth 100000 in
set_option maxHeartbeats 8000000 in
theorem Jf {S:Nat→Prop} (a:Option Addr) (n c:Nat) (ls:List Nm) (w:World) (h:aH g D w p mb ib nb T) (hT:fB T) (hS:aP S w a n (ls.map strOf)) (hc:n≤c) (oP:n≤1000000):
  Calls Tryz.prog 33 #[ptr p, .slice a n c] w (Turn g D w p mb (b_ T ls).2 (.int .i64 (b_ T ls).1)):=by
 have HH:=Lib.hid h
 have HT:=Lib.hid hT
 have HS:=Lib.hid hS
 have HF:=Lib.hid (t_ (S:=S) a n c ls w hS)
 have lJ:=Lib.hid (fun w1 (hb:Below w.heap.size w w1)=>nS a n c ls w1 (h.below hb (Nat.le_refl _)) hT (hS.below hb (Nat.le_refl _)))
 clear h hT hS
 by_cases hf:bK ls=0
 ·have xZ:=Lib.hid hf
  rw[hf]at HF
  clear hf
  have Az:Hid (dY T ls=aA T 0 ls):=by unfold dY;rw[if_neg (by rw[xZ.out];simp)];exact rfl
  obtain⟨⟨id,e0⟩,hq⟩:∃q,q=aA T 0 ls:=⟨_,rfl⟩
  have HQ:=Lib.hid hq
  rw[←hq]at lJ Az
  clear hq
  by_cases he:e0=0
  ·subst he
   obtain⟨y,hy⟩:=Option.isSome_iff_exists.1 (oZ HQ.out.symm HT.out)
   have HY:=Lib.hid hy
   have kI:=HT.out.ids id y hy
   have hok:aV.ok id:=lC kI.1 (by omega)
   have HG:Hid (ah id (T.map fun q=>(q.1,ptr (ib q.1)))=some (ptr (ib id))):=by rw[dh,hy];rfl
   have HIT:Hid (∀w1,Below w.heap.size w w1→w1.cell? ⟨p,0,none⟩=some (.map (some mb))∧MapAt aV w1 mb (T.map fun q=>(q.1,ptr (ib q.1)))∧w1.cell? ⟨ib id,1,none⟩=some (.int .i64 y.kind)):=fun w1 hb=>by
    have h2:=HH.out.below hb (Nat.le_refl _)
    obtain⟨_,c1,c2,_⟩:=(h2.item id y HY.out).cell
    exact⟨h2.cell.1,h2.map,c1⟩
   clear hy
   by_cases hk:y.kind=2
   ·have HM:Hid (b_ T ls=(22,T)):=by
     have:gQ T ls=22:=by
      unfold gQ
      rw[Az.out,←HQ.out,if_neg (by simp),if_pos ((aY HY.out).trans hk)]
     unfold b_;rw[this]<;>exact rfl
    go_enter Tryz.func33,Tryz.ntmps33
    go_wp2_with fail
    (with_reducible refine HF.out.mono ?_)
    rintro e w1 ⟨rfl,hb1⟩
    have HB1:=Lib.hid hb1
    clear hb1
    go_wp2_with fail
    (with_reducible refine(lJ.out w1 HB1.out).mono ?_)
    rintro e w2 ⟨rfl,rfl⟩
    obtain⟨c0,hmap,c1⟩:=HIT.out w1 HB1.out
    rw[hk]at c1
    have fE:=Lib.hid hmap
    clear hmap
    go_wp2_with (first|(at_lookup;refine aK aV rfl _ _ 104 107 rfl Tryz.underlying104 (Tryz.aT _) rfl fE.out id rfl hok ?_;rw[HG.out]))
    go_ret
    rw[HM.out]
    exact Turn.same HH.out HB1.out rfl
   ·have hkk:(y.kind==2)=false:=by simpa using hk
    have hp:ls≠[]:=fun e=>by
     have h1:id=0:=congrArg Prod.fst (HQ.out.trans (by rw[e]<;>exact(rfl:aA T 0 []=(0,0))))
     have:=HT.out.root
     rw[←h1,aY HY.out]at this
     exact hk this
    obtain⟨d,x,nm,e1,-,hx,hxk,hn,hmem,-⟩:=bQ HQ.out.symm hp
    have BX:=Lib.hid (h_ xZ.out _ hmem)
    have j_:=Lv BX.out
    have HM:Hid (b_ T ls=(0,eG (aX id (fun x=>{x with links:=x.links-1}) (ak T d nm)) id)):=by
     have:gQ T ls=0:=by
      unfold gQ
      rw[Az.out,←HQ.out,if_neg (by simp),if_neg (by rw[aY HY.out];exact hk)]
     unfold b_ nP;rw[this,←HQ.out,e1];exact rfl
    have rR:=Lib.hid (fun w1 (hb:Below w.heap.size w w1)=>yu a n c ls w1 (HH.out.below hb (Nat.le_refl _)) HT.out (HS.out.below hb (Nat.le_refl _)) hc oP e1)
    have HX:=Lib.hid hx
    have Aa:=Lib.hid hxk
    have hdi:id≠d:=fun e=>by subst e;rw[HY.out]at hx;cases hx;exact hk hxk
    have VP:=Lib.hid hdi
    have nU:=Lib.hid (fun w2 (hb:Below w.heap.size w w2)=>jN (HH.out.below hb (Nat.le_refl _)) hx hxk)
    have Wy:Hid ((Lit.int .i64 id).wf=true):=hok
    have hln:=(HT.out.each id y HY.out).links
    clear hk hp e1 hx hxk hn hmem hdi
    go_enter Tryz.func33,Tryz.ntmps33
    go_wp2_with fail
    (with_reducible refine HF.out.mono ?_)
    rintro e w1 ⟨rfl,hb1⟩
    have HB1:=Lib.hid hb1
    clear hb1
    go_wp2_with fail
    (with_reducible refine(lJ.out w1 HB1.out).mono ?_)
    rintro e w2 ⟨rfl,rfl⟩
    obtain⟨c0,hmap,c1⟩:=HIT.out w1 HB1.out
    have fE:=Lib.hid hmap
    clear hmap
    go_wp2_with (first|(at_lookup;refine aK aV rfl _ _ 104 107 rfl Tryz.underlying104 (Tryz.aT _) rfl fE.out id rfl hok ?_;rw[HG.out]))
    (with_reducible refine(rR.out w1 HB1.out).mono ?_)
    rintro e w2 ⟨rfl,hb2⟩
    have HB2:=Lib.hid (HB1.out.trans (hb2.mono HB1.out.size))
    clear hb2
    obtain⟨d7,dZ⟩:=nU.out w2 HB2.out
    have lW:=Lib.hid dZ
    have HA2:=Lib.hid (HH.out.below HB2.out (Nat.le_refl _))
    clear dZ
    have Cg:Hid (∀w3,MapAt cK w3 (nb d) (bB nm (bL x))→w2.mapTurned w3 (nb d)→(aH g D w3 p mb ib nb (ak T d nm)∧Keeps (fun b=>g b≠ .none) w2 w3)∧ah id (ak T d nm)=some y∧w3.cell? ⟨ib id,2,none⟩=some (.int .i64 y.links)∧w3.frozen? ⟨ib id,2,none⟩=false):=fun w3 hM Oz=>by
     have h3:=Ce HA2.out HX.out Aa.out hM Oz
     have hy3:ah id (ak T d nm)=some y:=by unfold ak;rw[aS,if_neg VP.out];exact HY.out
     exact⟨h3,hy3,(h3.1.item id y hy3).cell.2.2.1,(h3.1.item id y hy3).frozen 2⟩
    go_wp2_with (at_delete;refine jq cK rfl _ _ 110 3 rfl Tryz.underlying110 rfl lW.out nm rfl j_ ?_;intro w3 TY Qu;obtain⟨hA3,hy3,g2,KG⟩:=Cg.out w3 TY Qu;have OG:=Lib.hid hA3;have Tp:=Lib.hid hy3;clear hA3 TY Qu hy3)
    have hA3:=OG.out
    have hgi:=HH.out.mK id y HY.out
    have CU:aH g D (w3.setCell ⟨ib id,2,none⟩ (.int .i64 (y.links-1))) p mb ib nb (aX id (fun x=>{x with links:=x.links-1}) (ak T d nm)):=
     hA3.1.fields Tp.out (fun x=>{x with links:=x.links-1}) rfl rfl rfl (Keeps.iG w3 ⟨ib id,2,none⟩ _) (by rw[size_set]) fun a c hc=>by rw[bX hc];rfl
    have hy4:ah id (aX id (fun x=>{x with links:=x.links-1}) (ak T d nm))=some {y with links:=y.links-1}:=by rw[aS,if_pos rfl,Tp.out];rfl
    have E9:Hid (Keeps (fun b=>g b≠ .none) w (w3.setCell ⟨ib id,2,none⟩ (.int .i64 (y.links-1)))):=
     ((jO HB2.out).trans hA3.2 (fun _ _ h=>h)).trans ((Keeps.iG w3 ⟨ib id,2,none⟩ _).mono fun b _ hb=>by rw[show b=ib id from hb,hgi];simp) (fun _ _ h=>h)
    have Ri:=Lib.hid (yc id hy4 Wy.out _ CU)
    have HGM:=Lib.hid HH.out.je
    clear hA3 hgi CU hy4
    (with_reducible refine Ri.out.mono ?_)
    rintro e w5 ⟨rfl,CV,tJ,_⟩
    have Rj:=Lib.hid CV
    have Jg:=Lib.hid tJ
    clear CV tJ
    go_wp2_with fail
    go_ret
    rw[HM.out]
    exact Turn.of rfl Rj.out (E9.out.trans (Jg.out.mono fun b _ hb=>by rw[show b=mb from hb,HGM.out];simp) (fun _ _ h=>h))
  ·have hne:(e0==0)=false:=by simpa using he
   have hne2:(e0 !=0)=true:=by simpa using he
   have HM:Hid (b_ T ls=(e0,T)):=by
    have:gQ T ls=e0:=by
     unfold gQ
     rw[Az.out,if_pos he]
    unfold b_;rw[this,if_neg he];exact rfl
   clear he
   go_enter Tryz.func33,Tryz.ntmps33
   go_wp2_with fail
   (with_reducible refine HF.out.mono ?_)
   rintro e w1 ⟨rfl,hb1⟩
   have HB1:=Lib.hid hb1
   clear hb1
   go_wp2_with fail
   (with_reducible refine(lJ.out w1 HB1.out).mono ?_)
   rintro e w2 ⟨rfl,rfl⟩
   go_wp2_with fail
   go_ret
   rw[HM.out]
   exact Turn.same HH.out HB1.out rfl
 ·have HM:Hid (b_ T ls=(bK ls,T)):=by
   have:gQ T ls=bK ls:=by unfold gQ dY;rw[if_pos hf,if_pos hf]
   unfold b_;rw[this,if_neg hf];exact rfl
  have hne:(bK ls==0)=false:=by simpa using hf
  have hne2:(bK ls !=0)=true:=by simpa using hf
  clear hf
  go_enter Tryz.func33,Tryz.ntmps33
  go_wp2_with fail
  (with_reducible refine HF.out.mono ?_)
  rintro e w1 ⟨rfl,hb1⟩
  go_wp2_with fail
  go_ret
  rw[HM.out]
  exact Turn.same HH.out hb1 rfl
set_option maxRecDepth 100000 in
set_option maxHeartbeats 8000000 in
theorem Lx {S:Nat→Prop} (a:Option Addr) (n c:Nat) (ls:List Nm) (w:World) (h:aH g D w p mb ib nb T) (hT:fB T) (hS:aP S w a n (ls.map strOf)) (hc:n≤c) (oP:n≤1000000):
  Calls Tryz.prog 103 #[ptr p, .slice a n c] w (Turn g D w p mb (dF T ls).2 (.int .i64 (dF T ls).1)):=by
 have HH:=Lib.hid h
 have HT:=Lib.hid hT
 have HS:=Lib.hid hS
 have HF:=Lib.hid (t_ (S:=S) a n c ls w hS)
 have lJ:=Lib.hid (fun w1 (hb:Below w.heap.size w w1)=>nS a n c ls w1 (h.below hb (Nat.le_refl _)) hT (hS.below hb (Nat.le_refl _)))
 clear h hT hS
 by_cases hf:bK ls=0
 ·have xZ:=Lib.hid hf
  rw[hf]at HF
  clear hf
  have Az:Hid (dY T ls=aA T 0 ls):=by unfold dY;rw[if_neg (by rw[xZ.out];simp)];exact rfl
  obtain⟨⟨id,e0⟩,hq⟩:∃q,q=aA T 0 ls:=⟨_,rfl⟩
  have HQ:=Lib.hid hq
  rw[←hq]at lJ Az
  clear hq
  by_cases he:e0=0
  ·subst he
   obtain⟨y,hy⟩:=Option.isSome_iff_exists.1 (oZ HQ.out.symm HT.out)
   have HY:=Lib.hid hy
   have kI:=HT.out.ids id y hy
   have hok:aV.ok id:=lC kI.1 (by omega)
   have HG:Hid (ah id (T.map fun q=>(q.1,ptr (ib q.1)))=some (ptr (ib id))):=by rw[dh,hy];rfl
   have HIT:Hid (∀w1,Below w.heap.size w w1→w1.cell? ⟨p,0,none⟩=some (.map (some mb))∧MapAt aV w1 mb (T.map fun q=>(q.1,ptr (ib q.1)))∧w1.cell? ⟨ib id,1,none⟩=some (.int .i64 y.kind)):=fun w1 hb=>by
    have h2:=HH.out.below hb (Nat.le_refl _)
    obtain⟨_,c1,c2,_⟩:=(h2.item id y HY.out).cell
    exact⟨h2.cell.1,h2.map,c1⟩
   clear hy
   by_cases hk:y.kind=2
   ·rw[hk]at HIT
    have Rh:=Lib.hid hk
    clear hk
    by_cases h0:id=0
    ·have HM:Hid (dF T ls=(1,T)):=by
      have:g_ T ls=1:=by
       unfold g_
       rw[Az.out,←HQ.out,if_neg (by simp),if_neg (by rw[aY HY.out,Rh.out];simp),if_pos h0]
      unfold dF;rw[this]<;>exact rfl
     have hd0:(id==0)=true:=by simpa using h0
     clear h0
     go_enter Tryz.func103,Tryz.ntmps103
     go_wp2_with fail
     (with_reducible refine HF.out.mono ?_)
     rintro e w1 ⟨rfl,hb1⟩
     have HB1:=Lib.hid hb1
     clear hb1
     go_wp2_with fail
     (with_reducible refine(lJ.out w1 HB1.out).mono ?_)
     rintro e w2 ⟨rfl,rfl⟩
     obtain⟨c0,hmap,c1⟩:=HIT.out w1 HB1.out
     have fE:=Lib.hid hmap
     clear hmap
     go_wp2_with (first|(at_lookup;refine aK aV rfl _ _ 104 107 rfl Tryz.underlying104 (Tryz.aT _) rfl fE.out id rfl hok ?_;rw[HG.out]))
     go_ret
     rw[HM.out]
     exact Turn.same HH.out HB1.out rfl
    ·have hd0:(id==0)=false:=by simpa using h0
     have Dt:=Lib.hid h0
     have LA:=Lib.hid (fun w2 (hb:Below w.heap.size w w2)=>jN (HH.out.below hb (Nat.le_refl _)) HY.out Rh.out)
     have Tm:Hid ((bL y).length=y.names.length):=by unfold bL;rw[List.length_map]<;>exact rfl
     clear h0
     by_cases hfull:0<y.names.length
     ·have HM:Hid (dF T ls=(24,T)):=by
       have hnm:aJ T id=y.names:=by unfold aJ;rw[HY.out]
       have:g_ T ls=24:=by
        unfold g_
        rw[Az.out,←HQ.out,if_neg (by simp),if_neg (by rw[aY HY.out,Rh.out];simp),if_neg Dt.out,hnm,if_pos hfull]
       unfold dF;rw[this]<;>exact rfl
      have hd:decide ((0:Int)<(y.names.length:Int))=true:=by simp;omega
      have hd2:decide (0<y.names.length)=true:=by simpa using hfull
      go_enter Tryz.func103,Tryz.ntmps103
      go_wp2_with fail
      (with_reducible refine HF.out.mono ?_)
      rintro e w1 ⟨rfl,hb1⟩
      have HB1:=Lib.hid hb1
      clear hb1
      go_wp2_with fail
      (with_reducible refine(lJ.out w1 HB1.out).mono ?_)
      rintro e w2 ⟨rfl,rfl⟩
      obtain⟨c0,hmap,c1⟩:=HIT.out w1 HB1.out
      have fE:=Lib.hid hmap
      clear hmap
      obtain⟨y7,hyn⟩:=LA.out w1 HB1.out
      have Rl:=Lib.hid hyn
      clear hyn
      go_wp2_with (first|(at_lookup;refine aK aV rfl _ _ 104 107 rfl Tryz.underlying104 (Tryz.aT _) rfl fE.out id rfl hok ?_;rw[HG.out])|(at_len;refine gP cK rfl _ 110 3 rfl Tryz.underlying110 rfl Rl.out ?_;rw[Tm.out]))
      go_ret
      rw[HM.out]
      exact Turn.same HH.out HB1.out rfl
     ·have HNY:Hid (y.names=[]):=by
       have:y.names=[]:=List.eq_nil_of_length_eq_zero (by omega)
       exact this
      have hn0:y.names.length=0:=by omega
      have HN0:=Lib.hid hn0
      have hp:ls≠[]:=fun e=>by
       have h1:id=0:=congrArg Prod.fst (HQ.out.trans (by rw[e]<;>exact(rfl:aA T 0 []=(0,0))))
       exact Dt.out h1
      obtain⟨d,x,nm,e1,-,hx,hxk,hn,hmem,-⟩:=bQ HQ.out.symm hp
      have BX:=Lib.hid (h_ xZ.out _ hmem)
      have j_:=Lv BX.out
      have HM:Hid (dF T ls=(0,bB id (ak T d nm))):=by
       have hnm:aJ T id=y.names:=by unfold aJ;rw[HY.out]
       have:g_ T ls=0:=by
        unfold g_
        rw[Az.out,←HQ.out,if_neg (by simp),if_neg (by rw[aY HY.out,Rh.out];simp),if_neg Dt.out,hnm,if_neg (by omega)]
       unfold dF tO;rw[this,←HQ.out,e1]<;>exact rfl
      have rR:=Lib.hid (fun w1 (hb:Below w.heap.size w w1)=>yu a n c ls w1 (HH.out.below hb (Nat.le_refl _)) HT.out (HS.out.below hb (Nat.le_refl _)) hc oP e1)
      have HX:=Lib.hid hx
      have Aa:=Lib.hid hxk
      have hdi:id≠d:=fun e=>by subst e;rw[HY.out]at hx;cases hx;rw[HNY.out]at hn;cases hn
      have VP:=Lib.hid hdi
      have nU:=Lib.hid (fun w2 (hb:Below w.heap.size w w2)=>jN (HH.out.below hb (Nat.le_refl _)) hx hxk)
      clear hp e1 hx hxk hn hmem hdi hfull hn0
      go_enter Tryz.func103,Tryz.ntmps103
      go_wp2_with fail
      (with_reducible refine HF.out.mono ?_)
      rintro e w1 ⟨rfl,hb1⟩
      have HB1:=Lib.hid hb1
      clear hb1
      go_wp2_with fail
      (with_reducible refine(lJ.out w1 HB1.out).mono ?_)
      rintro e w2 ⟨rfl,rfl⟩
      obtain⟨c0,hmap,c1⟩:=HIT.out w1 HB1.out
      have fE:=Lib.hid hmap
      clear hmap
      obtain⟨y7,hyn⟩:=LA.out w1 HB1.out
      have Rl:=Lib.hid hyn
      clear hyn
      go_wp2_with (first|(at_lookup;refine aK aV rfl _ _ 104 107 rfl Tryz.underlying104 (Tryz.aT _) rfl fE.out id rfl hok ?_;rw[HG.out])|(at_len;refine gP cK rfl _ 110 3 rfl Tryz.underlying110 rfl Rl.out ?_;rw[Tm.out,HN0.out]))
      (with_reducible refine(rR.out w1 HB1.out).mono ?_)
      rintro e w2 ⟨rfl,hb2⟩
      have HB2:=Lib.hid (HB1.out.trans (hb2.mono HB1.out.size))
      clear hb2
      obtain⟨d7,dZ⟩:=nU.out w2 HB2.out
      have lW:=Lib.hid dZ
      have HA2:=Lib.hid (HH.out.below HB2.out (Nat.le_refl _))
      clear dZ
      have Cg:Hid (∀w3,MapAt cK w3 (nb d) (bB nm (bL x))→w2.mapTurned w3 (nb d)→(aH g D w3 p mb ib nb (ak T d nm)∧Keeps (fun b=>g b≠ .none) w2 w3)∧w3.cell? ⟨p,0,none⟩=some (.map (some mb))∧MapAt aV w3 mb (T.map fun q=>(q.1,ptr (ib q.1)))):=fun w3 hM Oz=>by
       have h3:=Ce HA2.out HX.out Aa.out hM Oz
       have hm:=h3.1.map
       unfold ak at hm
       rw[vC _ _ _ (fun j=>ptr (ib j))]at hm
       exact⟨h3,h3.1.cell.1,hm⟩
      go_wp2_with (first|(at_delete;refine jq cK rfl _ _ 110 3 rfl Tryz.underlying110 rfl lW.out nm rfl j_ ?_;intro w3 TY Qu;obtain⟨hA3,hp3,NT⟩:=Cg.out w3 TY Qu;have OG:=Lib.hid hA3;have KH:=Lib.hid NT;clear hA3 TY Qu NT)|(at_delete;refine jq aV rfl _ _ 104 107 rfl Tryz.underlying104 rfl KH.out id rfl hok ?_;intro w4 zR qB;have Av:=Lib.hid zR;have wH:=Lib.hid qB;clear zR qB))
      go_ret
      rw[HM.out]
      have hA3:=OG.out
      have hsz:=iB wH.out
      have CU:aH g D w4 p mb ib nb (bB id (ak T d nm)):=by
       refine hA3.1.del ?_ (by omega) (fun b hb Q9=>dG wH.out b hb Q9)
       unfold ak
       rw[vC _ _ _ (fun j=>ptr (ib j))]
       exact Av.out
      have hgm:=HH.out.je
      exact Turn.of rfl CU (((jO HB2.out).trans hA3.2 (fun _ _ h=>h)).trans ((fM wH.out).mono fun b _ hb=>by rw[show b=mb from hb,hgm];simp) (fun _ _ h=>h))
   ·have hkk:(y.kind==2)=false:=by simpa using hk
    have HM:Hid (dF T ls=(23,T)):=by
     have:g_ T ls=23:=by
      unfold g_
      rw[Az.out,←HQ.out,if_neg (by simp),if_pos (by rw[aY HY.out];exact hk)]
     unfold dF;rw[this]<;>exact rfl
    go_enter Tryz.func103,Tryz.ntmps103
    go_wp2_with fail
    (with_reducible refine HF.out.mono ?_)
    rintro e w1 ⟨rfl,hb1⟩
    have HB1:=Lib.hid hb1
    clear hb1
    go_wp2_with fail
    (with_reducible refine(lJ.out w1 HB1.out).mono ?_)
    rintro e w2 ⟨rfl,rfl⟩
    obtain⟨c0,hmap,c1⟩:=HIT.out w1 HB1.out
    have fE:=Lib.hid hmap
    clear hmap
    go_wp2_with (first|(at_lookup;refine aK aV rfl _ _ 104 107 rfl Tryz.underlying104 (Tryz.aT _) rfl fE.out id rfl hok ?_;rw[HG.out]))
    go_ret
    rw[HM.out]
    exact Turn.same HH.out HB1.out rfl
  ·have hne:(e0==0)=false:=by simpa using he
   have hne2:(e0 !=0)=true:=by simpa using he
   have HM:Hid (dF T ls=(e0,T)):=by
    have:g_ T ls=e0:=by
     unfold g_
     rw[Az.out,if_pos he]
    unfold dF;rw[this,if_neg he];exact rfl
   clear he
   go_enter Tryz.func103,Tryz.ntmps103
   go_wp2_with fail
   (with_reducible refine HF.out.mono ?_)
   rintro e w1 ⟨rfl,hb1⟩
   have HB1:=Lib.hid hb1
   clear hb1
   go_wp2_with fail
   (with_reducible refine(lJ.out w1 HB1.out).mono ?_)
   rintro e w2 ⟨rfl,rfl⟩
   go_wp2_with fail
   go_ret
   rw[HM.out]
   exact Turn.same HH.out HB1.out rfl
 ·have HM:Hid (dF T ls=(bK ls,T)):=by
   have:g_ T ls=bK ls:=by unfold g_ dY;rw[if_pos hf,if_pos hf]
   unfold dF;rw[this,if_neg hf];exact rfl
  have hne:(bK ls==0)=false:=by simpa using hf
  have hne2:(bK ls !=0)=true:=by simpa using hf
  clear hf
  go_enter Tryz.func103,Tryz.ntmps103
  go_wp2_with fail
  (with_reducible refine HF.out.mono ?_)
  rintro e w1 ⟨rfl,hb1⟩
  go_wp2_with fail
  go_ret
  rw[HM.out]
  exact Turn.same HH.out hb1 rfl
end
def maxD (d:Int→Nat) (l:List (Nm×Int)):Nat:=(l.map fun e=>1+d e.2).foldr Nat.max 0
theorem uj (d:Int→Nat):∀{l:List (Nm×Int)} {e:Nm×Int},e∈l→1+d e.2≤maxD d l
 |x::r,e,h=>by
  have e1:maxD d (x::r)=Nat.max (1+d x.2) (maxD d r):=rfl
  rw[e1]
  rcases List.mem_cons.1 h with rfl|h
  ·exact Nat.le_max_left _ _
  ·exact Nat.le_trans (uj d h) (Nat.le_max_right _ _)
theorem maxD_le (d:Int→Nat) {m:Nat}:∀{l:List (Nm×Int)},(∀e∈l,1+d e.2≤m)→maxD d l≤m
 |[],_=>Nat.zero_le _
 |x::r,h=>by
  have e1:maxD d (x::r)=Nat.max (1+d x.2) (maxD d r):=rfl
  rw[e1]
  exact Nat.max_le.2 ⟨h x (by simp),maxD_le d fun e he=>h e (by simp[he])⟩
def gy (T:aF):Nat→Int→Nat
 |0,_=>0
 |n+1,id=>maxD (gy T n) (aJ T id)
def um (T:aF):Nat→Int→Prop
 |0,id=>aJ T id=[]
 |n+1,id=>∀e∈aJ T id,um T n e.2
theorem um.le {T:aF}:∀{n:Nat} {id:Int},um T n id→gy T n id≤n
 |0,_,_=>Nat.le_refl _
 |n+1,id,h=>maxD_le _ fun e he=>by have:=(h e he).le;omega
section
variable {P:Program} {w:World} {ops:Array Oper} {rest:List Oper} {o:Oper} {a:Act} {Q:Exit→Act→World→Prop}
theorem kJ (hg:o.guard=none) (m:Operand) (t k e:TypeId) (hop:o.op=Op.range t m) (ht:P.underlying t=some (.map k e)) (hm:a.eval m= .map none)
  (h:wpList P ops Q rest (a.put o.dst (.pointer (some ⟨w.heap.size,0,none⟩))) (w.alloc (.mapIter none 0 #[] 0))):wpList P ops Q (o::rest) a w:=by
 refine wpList_plain hg fun K' hK'=> ?_
 have hrun:(Instr.range t (.map none)).run P w= .ok (.pointer (some ⟨w.heap.size,0,none⟩)) (w.alloc (.mapIter none 0 #[] 0)):=by
  simp[Instr.range,run_underlying ht,Result.andThen]
 unfold Oper.wp
 simp[execOp,hop,hm,hrun,Result.andThen]
 exact hK' _ _ h
theorem lN (hg:o.guard=none) (it:Operand) (hop:o.op=Op.next it false) {r:Nat} (hit:a.eval it= .pointer (some ⟨r,0,none⟩)) (hr:w.heap[r]? =some (.mapIter none 0 #[] 0))
  (h:wpList P ops Q rest (a.put o.dst (.tuple #[.bool false])) w):wpList P ops Q (o::rest) a w:=by
 refine wpList_plain hg fun K' hK'=> ?_
 have hrun:(Instr.next (.pointer (some ⟨r,0,none⟩)) false o.type).run P w= .ok (.tuple #[.bool false]) w:=by
  simp only[Instr.next,getObj,Sem.run_bind,Sem.run,hr,Result.andThen]
  rfl
 unfold Oper.wp
 simp[execOp,hop,hit,hrun,Result.andThen]
 exact hK' _ _ h
end
section
variable {g:Nat→Own} {D:Nat→Prop} {p mb:Nat} {ib nb:Int→Nat} {T:aF}
def sI (p:Nat) (w:World) (id:Int) (n:Nat):Prop:=Calls Tryz.prog 149 #[ptr p, .int .i64 id] w fun e w'=>e= .returned (.int .i64 n)∧Below w.heap.size w w'
def OH (w:World) (d:Int→Nat) (x:bA) (T9 r:Nat) (v:Value) (wr:World):Prop:=
 ∃(m:Nat) (left:Nm→Bool) (cnt:Nat),v= .int .i64 m∧m≤maxD d x.names∧(∀e∈x.names,left e.1=false→1+d e.2≤m)∧dI cK wr T9 r (bL x) left cnt∧Below w.heap.size w wr
set_option maxHeartbeats 1000000 in
theorem AB (id:Int) (x:bA) (d:Int→Nat) (w:World) (h:aH g D w p mb ib nb T) (hT:fB T) (hx:ah id T=some x) (hd:∀e∈x.names,d e.2≤64)
  (hc:∀e∈x.names,∀w1,Below w.heap.size w w1→sI p w1 e.2 (d e.2)):sI p w id (maxD d x.names):=by
 obtain⟨hc0,hpw,hmw⟩:=h.cell
 have kI:=hT.ids id x hx
 have hok:aV.ok id:=lC kI.1 (by omega)
 obtain⟨c0,c1,c2,c3,c4,c5,c7,hiw⟩:=(h.item id x hx).cell
 have hget:ah id (T.map fun q=>(q.1,ptr (ib q.1)))=some (ptr (ib id)):=by rw[dh,hx];rfl
 have HG:=Lib.hid hget
 have fE:=Lib.hid h.map
 have HC:=Lib.hid hc
 have HD:=Lib.hid hd
 have O1:=Lib.hid (hT.each id x hx)
 by_cases hk:x.kind=2
 ·have e2:fD x (nb id)= .map (some (nb id)):=if_pos hk
  rw[e2]at c7
  have HN:=Lib.hid ((h.item id x hx).names hk)
  have hbw:=HN.out.lt
  clear hget hc hd h hk e2 hT
  unfold sI
  go_enter Tryz.func149,Tryz.ntmps149
  go_wp2_with (first|(at_lookup;refine aK aV rfl _ _ 104 107 rfl Tryz.underlying104 (Tryz.aT _) rfl fE.out id rfl hok ?_;rw[HG.out])|(at_range;refine jZ cK rfl _ 110 3 rfl Tryz.underlying110 rfl HN.out ?_;intro w0 hR0 hB0 hs0))
  go_frame
  go_loopw [5,7] (fun v _ wr=>OH w d x (nb id) w.heap.size v wr) (fun _ _ wr=>wr.rangeLeft (nb id) w.heap.size)
  case atStart=>
   refine⟨0,_,_,rfl,Nat.zero_le _,fun e he hl=> ?_,hR0,hB0⟩
   simp only[dA]at hl
   rw[aL nk O1.out.sorted he]at hl
   cases hl
  case round=>
   obtain⟨m,left,cnt,rfl,hm,T_,hR,hB⟩:=hrel
   have HB:=Lib.hid hB
   have Ua:=Lib.hid T_
   have HR:=Lib.hid hR
   have hmd:maxD d x.names≤65:=maxD_le d fun e he=>by have:=HD.out e he;omega
   clear T_ hR hB
   go_wp2_with (first|(at_next;refine lg cK rfl _ rfl rfl HR.out ?_ ?_))
   ·intro hdone
    have zS:=Lib.hid hdone
    clear hdone
    go_wp2
    go_ret
    refine⟨fK ?_,HB.out⟩
    have:maxD d x.names≤m:=maxD_le d fun e he=>Ua.out e he (zS.out _)
    omega
   ·intro k v w3 cnt1 LB hleft hg2 mQ hlt hK1 hs1 hen
    rw[dA]at hg2
    cases hk2:ah k x.names with
    |none=>rw[hk2]at hg2;cases hg2
    |some j=>
     rw[hk2]at hg2
     cases hg2
     have hmem:=bq hk2
     have hB3:Below w.heap.size w w3:=⟨hK1.os.trans HB.out.os,hK1.tape.trans HB.out.tape,hK1.output.trans HB.out.output,by rw[hs1];exact HB.out.size,fun b hb=>(hK1.block b (by have:=HB.out.size;omega) (by omega)).trans (HB.out.block b hb)⟩
     have Rm:=Lib.hid (HC.out _ hmem w3 hB3)
     have hdj:=HD.out _ hmem
     have hjm:=uj d hmem
     have HB3:=Lib.hid hB3
     have HR1:=Lib.hid mQ
     have BZ:=Lib.hid hk2
     have AJ:=Lib.hid hlt
     simp only at hdj hjm
     have e1:IntKind.i64.wrap (1+(d j:Int))=1+(d j:Int):=IntWalk.i64_in _ (by omega)
     have hrw:=HR.out.lt
     clear hk2 hmem mQ hB3 hlt hK1
     show wpList _ _ _ _ _ _
     have e3:cK.val k= .string (strOf k):=rfl
     rw[e3]at hen⊢
     clear e3
     have Rn:=Lib.hid (show Calls Tryz.prog 149 #[ptr p, .int .i64 j] w3 _ from Rm.out)
     go_wp2_with fail
     (with_reducible refine Rn.out.mono ?_)
     rintro e w4 ⟨rfl,hb4⟩
     have dS:=Lib.hid hb4
     clear hb4
     go_wp2_with fail
     go_roundw
     case rel=>
      have hs4:=dS.out.size
      refine⟨Nat.max m (1+d j),_,cnt1,?_,Nat.max_le.2 ⟨hm,hjm⟩,fun e he hl=> ?_,HR1.out.kept (dS.out.block _ HR1.out.lt.1) (dS.out.block _ HR1.out.lt.2.1),HB3.out.trans (dS.out.mono HB3.out.size)⟩
      ·congr 1
       show max (m:Int) (1+(d j:Int))=((Nat.max m (1+d j):Nat):Int)
       rcases Nat.le_total m (1+d j)with h0|h0
       ·rw[show Nat.max m (1+d j)=1+d j from Nat.max_eq_right h0];omega
       ·rw[show Nat.max m (1+d j)=m from Nat.max_eq_left h0];omega
      ·by_cases hek:e.1=k
       ·have h1:=aL nk O1.out.sorted he
        rw[hek,BZ.out]at h1
        have h2:j=e.2:=Option.some.inj h1
        rw[←h2]
        exact Nat.le_max_right _ _
       ·refine Nat.le_trans (Ua.out e he ?_) (Nat.le_max_left _ _)
        simpa[hek]using hl
     case measure=>
      have h4:dI cK w4 (nb id) w.heap.size (bL x) _ cnt1:=HR1.out.kept (dS.out.block _ HR1.out.lt.1) (dS.out.block _ HR1.out.lt.2.1)
      rw[h4.measure,HR.out.measure]
      exact AJ.out
 ·have e2:fD x (nb id)= .map none:=if_neg hk
  rw[e2]at c7
  have hnil:x.names=[]:=O1.out.file (O1.out.kind.resolve_right hk)
  have FL:=Lib.hid hnil
  clear hget hc hd h hk e2 hT hnil
  unfold sI
  rw[FL.out]
  go_enter Tryz.func149,Tryz.ntmps149
  go_wp2_with (first|(at_lookup;refine aK aV rfl _ _ 104 107 rfl Tryz.underlying104 (Tryz.aT _) rfl fE.out id rfl hok ?_;rw[HG.out])|(at_range;refine kJ rfl _ 110 9 3 rfl Tryz.underlying110 rfl ?_))
  go_frame
  go_loopw [5,7] (fun v _ wr=>v= .int .i64 0∧wr=w.alloc (.mapIter none 0 #[] 0)) (fun _ _ wr=>0)
  case atStart=>exact⟨rfl,rfl⟩
  case round=>
   obtain⟨rfl,rfl⟩:=hrel
   go_wp2_with (first|(at_next;refine lN rfl _ rfl rfl (MapKept.heap_alloc w _).1 ?_))
   go_ret
   exact⟨rfl,wall w _⟩
theorem Du (hT:fB T):∀(n:Nat) (id:Int) (w:World),aH g D w p mb ib nb T→(ah id T).isSome=true→um T n id→n≤64→sI p w id (gy T n id)
 |0,id,w,h,hi,hs,hn=>by
  obtain⟨x,hx⟩:=Option.isSome_iff_exists.1 hi
  have e:x.names=[]:=by have h1:aJ T id=[]:=hs;unfold aJ at h1;rw[hx]at h1;exact h1
  have:=AB id x (fun _=>0) w h hT hx (fun _ _=>Nat.zero_le _) (fun y he=>by rw[e]at he;cases he)
  rw[e]at this
  exact this
 |n+1,id,w,h,hi,hs,hn=>by
  obtain⟨x,hx⟩:=Option.isSome_iff_exists.1 hi
  have e:aJ T id=x.names:=by unfold aJ;rw[hx]
  have hs':∀e∈x.names,um T n e.2:=fun y hy=>hs y (by rw[e];exact hy)
  have:=AB id x (gy T n) w h hT hx (fun y hy=>Nat.le_trans (hs' y hy).le (by omega)) (fun y hy w1 hb=>
   Du hT n y.2 w1 (h.below hb (Nat.le_refl _)) (hT.leads id x hx y hy).1 (hs' y hy) (by omega))
  rw[←e]at this
  exact this
end
structure dM (T:aF) (dep:Int→Nat):Prop where
 zero:dep 0=0
 up:∀d x,ah d T=some x→∀e∈x.names,dep d<8∧(bf T e.2=2→dep e.2=dep d+1)
theorem bT {T:aF} {id:Int} {x:bA} (hx:ah id T=some x):aJ T id=x.names:=by unfold aJ;rw[hx]
theorem kK {T:aF} {id:Int} {e:Nm×Int} (h:e∈aJ T id):∃x,ah id T=some x∧e∈x.names:=by
 unfold aJ at h
 cases hx:ah id T with
 |none=>rw[hx]at h;cases h
 |some x=>rw[hx]at h;exact⟨x,rfl,h⟩
theorem kL {T:aF} (hT:OkW T) {id:Int} {x:bA} (hx:ah id T=some x) {e:Nm×Int} (he:e∈x.names):x.kind=2:=by
 rcases (hT.each id x hx).kind with h|h
 ·rw[(hT.each id x hx).file h]at he;cases he
 ·exact h
theorem LC {T:aF} {id:Int} (h:aJ T id=[]):∀n,um T n id
 |0=>h
 |n+1=>fun e he=>by rw[h]at he;cases he
theorem dM.FM {T:aF} {dep:Int→Nat} (h:dM T dep) (hT:OkW T):∀(n:Nat) (d:Int),8≤n+dep d→um T n d
 |0,d,hd=>by
  show aJ T d=[]
  cases hn:aJ T d with
  |nil=>rfl
  |cons e r=>
   obtain⟨x,hx,he⟩:=kK (T:=T) (id:=d) (e:=e) (by rw[hn];simp)
   have:=(h.up d x hx e he).1
   omega
 |n+1,d,hd=>fun e he=>by
  obtain⟨x,hx,he⟩:=kK he
  by_cases hk:bf T e.2=2
  ·have:=(h.up d x hx e he).2 hk
   exact h.FM hT n e.2 (by omega)
  ·refine LC ?_ n
   obtain⟨y,hy⟩:=Option.isSome_iff_exists.1 (hT.leads d x hx e he).1
   rw[aY hy]at hk
   rw[bT hy]
   exact(hT.each _ y hy).file ((hT.each _ y hy).kind.resolve_right hk)
theorem dM.Ia {T:aF} {dep:Int→Nat} (h:dM T dep) (hT:OkW T) (d:Int):um T 8 d:=h.FM hT 8 d (by omega)
theorem jg {T:aF} {a d:Int} {n:Nm} {r:List Nm} (h:aA T a (n::r)=(d,0)):∃x k,ah a T=some x∧x.kind=2∧ah n x.names=some k∧aA T k r=(d,0):=by
 simp only[aA]at h
 cases hx:ah a T with
 |none=>rw[hx]at h;cases h
 |some x=>
  rw[hx]at h
  simp only at h
  by_cases hk:x.kind=2
  ·rw[if_pos hk]at h
   cases hn:ah n x.names with
   |none=>rw[hn]at h;cases h
   |some k=>rw[hn]at h;exact⟨x,k,rfl,hk,hn,h⟩
  ·rw[if_neg hk]at h;cases h
theorem qE {T:aF} {dep:Int→Nat} (h:dM T dep):∀(p:List Nm) (a d:Int),aA T a p=(d,0)→bf T d=2→dep d=dep a+p.length
 |[],a,d,hl,_=>by
  have:a=d:=congrArg Prod.fst hl
  subst this;rfl
 |n::r,a,d,hl,hd=>by
  obtain⟨x,k,hx,hk,hn,hl⟩:=jg hl
  have hkk:bf T k=2:=by
   cases r with
   |nil=>
    have:k=d:=congrArg Prod.fst hl
    rw[this];exact hd
   |cons m s=>
    obtain⟨y,j,hy,hyk,_⟩:=jg hl
    rw[aY hy];exact hyk
  have h1:=(h.up a x hx _ (bq hn)).2 hkk
  have h2:=qE h r k d hl hd
  simp only at h1
  rw[List.length_cons]
  omega
theorem uo {T:aF} (hT:OkW T) {a b k:Int} {x y:bA} {n m:Nm} (hx:ah a T=some x) (hn:ah n x.names=some k) (hy:ah b T=some y) (hm:ah m y.names=some k) (hk:bf T k=2):a=b∧n=m:=by
 obtain⟨z,hz,Ub⟩:=eX hk
 have h0:=(hT.leads a x hx _ (bq hn)).2
 have hc:=hT.counts k z hz h0
 rw[((hT.each k z hz).dir Ub).1]at hc
 have h1:=nW hT.toxU hx hn k
 rw[if_pos rfl]at h1
 have h2:eB (ak T a n) k=0:=by omega
 by_cases hab:b=a
 ·subst hab
  rw[hx]at hy;cases hy
  refine⟨rfl,?_⟩
  by_cases hnm:m=n
  ·exact hnm.symm
  ·have hg:ah b (ak T b n)=some {x with names:=bB n x.names}:=by unfold ak;rw[aS,if_pos rfl,hx];rfl
   have hm':ah m (bB n x.names)=some k:=by rw[lK hnm];exact hm
   exact absurd rfl (xw h2 hg _ (bq hm'))
 ·have hg:ah b (ak T a n)=some y:=by unfold ak;rw[aS,if_neg hab];exact hy
  exact absurd rfl (xw h2 hg _ (bq hm))
theorem mR {T:aF} (hT:OkW T):∀(l:Nat) (p q:List Nm) (d:Int),p.length≤l→aA T 0 p=(d,0)→aA T 0 q=(d,0)→bf T d=2→p=q
 |l,p,q,d,hl,hp,hq,hd=>by
  by_cases h1:p=[]
  ·subst h1
   by_cases h2:q=[]
   ·exact h2.symm
   ·obtain⟨d',x,n,-,-,hx,_,hn,_⟩:=bQ hq h2
    have h0:(0:Int)=d:=congrArg Prod.fst hp
    have:=(hT.leads d' x hx _ (bq hn)).2
    exact absurd h0.symm this
  ·obtain⟨d1,x,n,-,hl1,hx,hxk,hn,_,e1⟩:=bQ hp h1
   by_cases h2:q=[]
   ·subst h2
    have h0:(0:Int)=d:=congrArg Prod.fst hq
    have:=(hT.leads d1 x hx _ (bq hn)).2
    exact absurd h0.symm this
   ·obtain⟨d2,y,m,-,hl2,hy,_,hm,_,e2⟩:=bQ hq h2
    obtain⟨hab,hnm⟩:=uo hT hx hn hy hm hd
    subst hab hnm
    have hlen:p.dropLast.length<p.length:=by
     rw[List.length_dropLast]
     have:p.length≠0:=fun e=>h1 (List.eq_nil_of_length_eq_zero e)
     omega
    match l,hl with
    |0,hl=>exact absurd (List.eq_nil_of_length_eq_zero (by omega)) h1
    |l+1,hl=>
     have:=mR hT l p.dropLast q.dropLast d1 (by omega) hl1 hl2 ((aY hx).trans hxk)
     rw[e1,e2,this]
def FN (T:aF) (id d:Int):Prop:=∃q,aA T id q=(d,0)
theorem Ib {T:aF} (hT:fB T):∀(q:List Nm) (id d:Int) (x:bA) (e:Nm×Int) (n:Nat),aA T id q=(d,0)→ah d T=some x→e∈x.names→q.length<n→q.length+1≤gy T n id
 |[],id,d,x,e,n+1,hl,hx,he,hn=>by
  have:id=d:=congrArg Prod.fst hl
  subst this
  have:1+gy T n e.2≤maxD (gy T n) (aJ T id):=uj _ (by rw[bT hx];exact he)
  show 0+1≤maxD (gy T n) (aJ T id)
  omega
 |m::r,id,d,x,e,n+1,hl,hx,he,hn=>by
  obtain⟨y,k,hy,hyk,hm,hl⟩:=jg hl
  rw[List.length_cons]at hn
  have h1:=Ib hT r k d x e n hl hx he (by omega)
  have:1+gy T n k≤maxD (gy T n) (aJ T id):=uj (gy T n) (e:=(m,k)) (by rw[bT hy];exact bq hm)
  show(m::r).length+1≤maxD (gy T n) (aJ T id)
  rw[List.length_cons]
  omega
 |q,_,_,_,_,0,_,_,_,hn=>by omega
def iH (p q:List Nm):Bool:=decide (p.take q.length=q)
def gV (T:aF) (p tq:List Nm):Int:=
 if iC p tq≠0 then iC p tq else
 if (aA T 0 p).2≠0 then(aA T 0 p).2 else
 if (aA T 0 p).1=0 then 1 else
 if (aC T tq).2.2≠0 then(aC T tq).2.2 else
 if bf T (aA T 0 p).1=2∧iH tq p=true then 1 else
 match ah (aC T tq).2.1 (aJ T (aC T tq).1)with
 |some k=>if k=(aA T 0 p).1 then 0 else 21
 |none=>if 8<tq.length+gy T 8 (aA T 0 p).1 then 3 else 0
def nX (T:aF) (p tq:List Nm):aF:=setName (ak T (aC T p).1 (aC T p).2.1) (aC T tq).1 (aC T tq).2.1 (aA T 0 p).1
def bg (T:aF) (p tq:List Nm):Int×aF:=
 (gV T p tq,if gV T p tq=0∧(ah (aC T tq).2.1 (aJ T (aC T tq).1)).isSome=false then nX T p tq else T)
theorem fB.move {T:aF} (h:fB T) {d1 d2 id:Int} {x1 x2:bA} {n1 n2:Nm} (hx1:ah d1 T=some x1) (hk1:x1.kind=2) (hn1:ah n1 x1.names=some id) (hx2:ah d2 T=some x2) (hk2:x2.kind=2) (hg2:bV n2=true) (hn2:ah n2 x2.names=none):
  fB (setName (ak T d1 n1) d2 n2 id):=by
 have hid:=h.leads d1 x1 hx1 _ (bq hn1)
 have hP:=h.torz.cut (n:=n1) hx1 hk1
 obtain⟨x3,hx3,hk3,Uc⟩:∃x3,ah d2 (ak T d1 n1)=some x3∧x3.kind=2∧ah n2 x3.names=none:=by
  unfold ak
  rw[aS]
  by_cases hd:d2=d1
  ·subst hd
   rw[hx1]at hx2;cases hx2
   rw[if_pos rfl,hx1]
   refine⟨_,rfl,hk1,?_⟩
   show ah n2 (bB n1 x1.names)=none
   rw[dP]
   split
   ·rfl
   ·exact hn2
  ·rw[if_neg hd];exact⟨x2,hx2,hk2,hn2⟩
 have Wz:(ah id (ak T d1 n1)).isSome=true:=by
  unfold ak;rw[aS]
  split<;>simp[hid.1]
 refine⟨hP.set hx3 hk3 hg2 ⟨Wz,hid.2⟩,fun j z hz hj=> ?_⟩
 have h1:=nW h.torz hx1 hn1 j
 have h2:=kH hP.sorted (fun x=>{x with names:=bZ bytesBefore n2 id x.names}) hx3 j
 have h3:=FB (id:=id) Uc j
 have e:eB (setName (ak T d1 n1) d2 n2 id) j=eB T j:=by
  unfold setName
  omega
 rw[e]
 unfold setName at hz
 rw[aS]at hz
 obtain⟨z1,hz1,hl1⟩:∃z1,ah j (ak T d1 n1)=some z1∧z.links=z1.links:=by
  by_cases hjd:j=d2
  ·rw[if_pos hjd]at hz
   cases hq:ah j (ak T d1 n1)with
   |none=>rw[hq]at hz;cases hz
   |some z1=>
    rw[hq]at hz
    simp only[Option.map_some,Option.some.injEq]at hz
    exact⟨z1,rfl,by rw[←hz]⟩
  ·rw[if_neg hjd]at hz;exact⟨z,hz,rfl⟩
 obtain⟨z2,hz2,hl2,_⟩:=Cb hz1
 rw[hl1,hl2]
 exact h.counts j z2 hz2 hj
theorem Dv {T:aF} (hT:fB T) {id a k:Int} {x:bA} {n:Nm} (hx:ah a T=some x) (hn:ah n x.names=some k) (hk:bf T k=2) (hki:k≠id):FN T id k↔FN T id a:=by
 constructor
 ·rintro ⟨q,hq⟩
  rcases List.eq_nil_or_concat q with rfl|⟨r,m,rfl⟩
  ·exact absurd (congrArg Prod.fst hq).symm hki
  ·rw[List.concat_eq_append,fO]at hq
   by_cases he:(aA T id r).2=0
   ·rw[if_pos he]at hq
    obtain⟨y,j,hy,hyk,hm,hl⟩:=jg hq
    have:j=k:=congrArg Prod.fst hl
    subst this
    obtain⟨hab,_⟩:=uo hT hx hn hy hm hk
    exact⟨r,Prod.ext hab.symm he⟩
   ·rw[if_neg he]at hq
    rw[hq]at he
    exact absurd rfl he
 ·rintro ⟨q,hq⟩
  refine⟨q++[n],?_⟩
  rw[fO,hq]
  simp only[if_pos]
  have:=kL hT hx (bq hn)
  simp only[aA,hx,if_pos this,hn]
theorem yw {T:aF} {d1 d2 id:Int} {n1 n2:Nm} {a:Int} {x:bA} (h:ah a (setName (ak T d1 n1) d2 n2 id)=some x):∃y,ah a T=some y∧x.kind=y.kind∧∀e∈x.names,(e∈y.names∧¬(a=d1∧e.1=n1))∨(a=d2∧e=(n2,id)):=by
 obtain⟨z,hz,hk,hc⟩:∃z,ah a (ak T d1 n1)=some z∧x.kind=z.kind∧∀e∈x.names,e∈z.names∨(a=d2∧e=(n2,id)):=by
  unfold setName at h
  rw[aS]at h
  by_cases hd:a=d2
  ·rw[if_pos hd]at h
   cases hz:ah a (ak T d1 n1)with
   |none=>rw[hz]at h;cases h
   |some z=>
    rw[hz]at h
    simp only[Option.map_some,Option.some.injEq]at h
    refine⟨z,rfl,by rw[←h],fun e he=> ?_⟩
    rw[←h]at he
    rcases (kZ bytesBefore).1 he with h2|h2
    ·exact .inr ⟨hd,h2⟩
    ·exact .inl (List.mem_filter.1 h2).1
  ·rw[if_neg hd]at h;exact⟨x,h,rfl,fun e he=> .inl he⟩
 unfold ak at hz
 rw[aS]at hz
 by_cases hd:a=d1
 ·rw[if_pos hd]at hz
  cases hy:ah a T with
  |none=>rw[hy]at hz;cases hz
  |some y=>
   rw[hy]at hz
   simp only[Option.map_some,Option.some.injEq]at hz
   refine⟨y,rfl,by rw[hk,←hz],fun e he=> ?_⟩
   rcases hc e he with h1|h1
   ·rw[←hz]at h1
    have h2:=List.mem_filter.1 h1
    refine .inl ⟨h2.1,fun h3=> ?_⟩
    have:=h2.2
    simp[h3.2]at this
   ·exact .inr h1
 ·rw[if_neg hd]at hz
  refine⟨z,hz,hk,fun e he=> ?_⟩
  rcases hc e he with h1|h1
  ·exact .inl ⟨h1,fun h=>hd h.1⟩
  ·exact .inr h1
theorem vL {T:aF} {d:Int} {f:bA→bA} (hf:∀x,(f x).kind=x.kind) (k:Int):bf (aX d f T) k=bf T k:=by
 unfold bf
 rw[aS]
 by_cases h:k=d
 ·rw[if_pos h]
  cases ah k T with
  |none=>rfl
  |some y=>exact hf y
 ·rw[if_neg h]
theorem AO {T:aF} {d1 d2 id:Int} {n1 n2:Nm} (k:Int):bf (setName (ak T d1 n1) d2 n2 id) k=bf T k:=by
 unfold setName ak
 exact(vL (fun _=>by exact rfl) k).trans (vL (fun _=>by exact rfl) k)
open Classical in
theorem dM.move {T:aF} {dep:Int→Nat} (h:dM T dep) (hT:fB T) {p tq:List Nm} {id dt:Int} {nt:Nm} (hp:aA T 0 p=(id,0)) (h0:id≠0) (hto:aC T tq=(dt,nt,0)) (hf:tq.length≤8) (hw:bf T id=2→iH tq p=false∧tq.length+gy T 8 id≤8):
  ∃Ro,dM (setName (ak T (aC T p).1 (aC T p).2.1) dt nt id) Ro:=by
 have hpn:p≠[]:=fun e=>by subst e;exact h0 (congrArg Prod.fst hp).symm
 obtain⟨d1,x1,n1,e1,hl1,hx1,hk1,hn1,_,ep⟩:=bQ hp hpn
 rw[e1]
 obtain⟨hln,hlt,hkt⟩:tq≠[]∧aA T 0 tq.dropLast=(dt,0)∧bf T dt=2:=by
  unfold aC at hto
  by_cases ht0:tq=[]
  ·rw[if_pos ht0]at hto;cases hto
  ·rw[if_neg ht0]at hto
   by_cases ht1:(aA T 0 tq.dropLast).2≠0
   ·rw[if_pos ht1]at hto
    exact absurd (congrArg (·.2.2) hto) ht1
   ·rw[if_neg ht1]at hto
    by_cases ht2:bf T (aA T 0 tq.dropLast).1=2
    ·rw[if_pos ht2]at hto
     have h3:(aA T 0 tq.dropLast).1=dt:=congrArg Prod.fst hto
     exact⟨ht0,Prod.ext h3 (by simpa using ht1),h3▸ht2⟩
    ·rw[if_neg ht2]at hto;cases hto
 have hdt:=qE h _ 0 dt hlt hkt
 rw[h.zero,List.length_dropLast]at hdt
 have htl:tq.length≠0:=fun e=>hln (List.eq_nil_of_length_eq_zero e)
 by_cases hk:bf T id=2
 ·obtain⟨hw1,hw2⟩:=hw hk
  have WA:=qE h p 0 id hp hk
  rw[h.zero]at WA
  have hnt:¬FN T id dt:=by
   rintro ⟨q,hq⟩
   have h3:aA T 0 (p++q)=(dt,0):=by rw[fO,hp];simp only[if_pos];exact hq
   have h4:=mR hT _ _ _ dt (Nat.le_refl _) hlt h3 hkt
   have h5:tq.take p.length=p:=by
    have h6:tq.dropLast.take p.length=p:=by rw[h4,List.take_left]
    have h7:p.length≤tq.length-1:=by
     have:=congrArg List.length h4
     rw[List.length_dropLast,List.length_append]at this
     omega
    rw[List.dropLast_eq_take,List.take_take,Nat.min_eq_left h7]at h6
    exact h6
   unfold iH at hw1
   rw[h5]at hw1
   simp at hw1
  refine⟨fun d=>if FN T id d then dep d+tq.length-p.length else dep d,?_,fun d x hx e he=> ?_⟩
  ·have:¬FN T id 0:=by
    rintro ⟨q,hq⟩
    have h3:aA T 0 (p++q)=(0,0):=by rw[fO,hp];simp only[if_pos];exact hq
    have h4:=mR hT 0 [] _ 0 (Nat.le_refl _) rfl h3 hT.root
    have:=congrArg List.length h4
    rw[List.length_append]at this
    exact hpn (List.eq_nil_of_length_eq_zero (by simp at this;omega))
   simp only[if_neg this,h.zero]
  ·obtain⟨y,hy,hxy,hnm⟩:=yw hx
   rw[AO]
   rcases hnm e he with⟨Tq,hne⟩|⟨hd,hee⟩
   ·have hup:=h.up d y hy e Tq
    have hyk:=kL hT hy Tq
    have hn:=aL nk (hT.each d y hy).sorted Tq
    by_cases hD:FN T id d
    ·obtain⟨q,hq⟩:=hD
     have h3:=qE h q id d hq ((aY hy).trans hyk)
     have hq8:q.length<8:=by have:=hup.1;omega
     have h4:=Ib hT q id d y e 8 hq hy Tq hq8
     simp only[if_pos (show FN T id d from⟨q,hq⟩)]
     refine⟨by omega,fun hek=> ?_⟩
     have Qv:e.2≠id:=fun h5=>by
      obtain⟨h6,h7⟩:=uo hT hx1 hn1 hy (by rw[←h5];exact hn) hk
      exact hne ⟨h6.symm,h7.symm⟩
     have:=hup.2 hek
     rw[if_pos ((Dv hT hy hn hek Qv).2 ⟨q,hq⟩)]
     omega
    ·simp only[if_neg hD]
     refine⟨hup.1,fun hek=> ?_⟩
     have Qv:e.2≠id:=fun h5=>by
      obtain⟨h6,h7⟩:=uo hT hx1 hn1 hy (by rw[←h5];exact hn) hk
      exact hne ⟨h6.symm,h7.symm⟩
     rw[if_neg (fun h6=>hD ((Dv hT hy hn hek Qv).1 h6))]
     exact hup.2 hek
   ·subst hd hee
    simp only[if_neg hnt]
    refine⟨by omega,fun _=> ?_⟩
    rw[if_pos ⟨[],rfl⟩]
    omega
 ·refine⟨dep,h.zero,fun d x hx e he=> ?_⟩
  obtain⟨y,hy,hxy,hnm⟩:=yw hx
  rw[AO]
  rcases hnm e he with⟨Tq,_⟩|⟨hd,hee⟩
  ·exact h.up d y hy e Tq
  ·subst hd hee
   exact⟨by omega,fun h3=>absurd h3 hk⟩
end Go.Proofs.YtjnhnlabpccgjaaGreat
