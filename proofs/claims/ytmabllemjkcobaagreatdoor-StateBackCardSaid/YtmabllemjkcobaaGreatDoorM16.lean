/- tree: Look, Unlink, Rmdir. tree: deep. -/
import Derived.Test.YtmabllemjkcobaaGreatDoorM15
namespace Go.Proofs.YtmabllemjkcobaaGreatDoor
open Go.ChangeShapes Go.WideShapes Go.ChangeAt Go.RowKit
set_option linter.unusedVariables false
set_option linter.unusedSimpArgs false
section
variable {g:Nat→Own} {D:Nat→Prop} {p mb:Nat} {ib nb:Int→Nat} {T:aK}
set_option maxHeartbeats 2000000 in
theorem Bc {S:Nat→Prop} (a:Option Addr) (n c:Nat) (ls:List Nm) (w:World) (h:aC g D w p mb ib nb T) (hT:dI T) (hS:aO S w a n (ls.map strOf)):
  Calls Tryz.prog 97 #[ptr p, .slice a n c] w fun e w'=>e= .returned (.tuple #[.int .i64 (bq T ls).1, .int .i64 (bq T ls).2])∧Below w.heap.size w w':=by
 have HF:=Lib.hid (sU (S:=S) a n c ls w hS)
 have mO:=Lib.hid (fun w1 (hb:Below w.heap.size w w1)=>oD a n c ls w1 (h.below hb (Nat.le_refl _)) hT (hS.below hb (Nat.le_refl _)))
 clear h hT hS
 by_cases hf:bG ls=0
 ·have HE:Hid (bq T ls=aD T 0 ls):=by unfold bq;rw[if_neg (by rw[hf];simp)];exact rfl
  rw[hf]at HF
  clear hf
  go_enter Tryz.func97,Tryz.ntmps97
  go_wp2_with fail
  (with_reducible refine HF.out.mono ?_)
  rintro e w1 ⟨rfl,hb1⟩
  have HB1:=Lib.hid hb1
  clear hb1
  go_wp2_with fail
  (with_reducible refine(mO.out w1 HB1.out).mono ?_)
  rintro e w2 ⟨rfl,rfl⟩
  go_wp2_with fail
  go_ret2
  rw[HE.out]
  exact⟨rfl,HB1.out⟩
 ·have HE:Hid (bq T ls=(0,bG ls)):=by unfold bq;rw[if_pos hf];exact rfl
  have hne:(bG ls==0)=false:=by simpa using hf
  have hne2:(bG ls !=0)=true:=by simpa using hf
  clear hf
  go_enter Tryz.func97,Tryz.ntmps97
  go_wp2_with fail
  (with_reducible refine HF.out.mono ?_)
  rintro e w1 ⟨rfl,hb1⟩
  have HB1:=Lib.hid hb1
  clear hb1
  go_wp2_with fail
  go_ret2
  rw[HE.out]
  exact⟨rfl,HB1.out⟩
theorem xM {S:Nat→Prop} {d:Int} {nm:Nm} (a:Option Addr) (n c:Nat) (ls:List Nm) (w:World) (h:aC g D w p mb ib nb T) (hT:dI T) (hS:aO S w a n (ls.map strOf)) (hc:n≤c) (nD:n≤1000000) (hp:aF T ls=(d,nm,0)):
  Calls Tryz.prog 60 #[ptr p, .slice a n c] w fun e w'=>e= .returned (.tuple #[ptr (ib d), .string (strOf nm), .int .i64 0])∧Below w.heap.size w w':=by
 have:=rA a n c ls w h hT hS hc nD
 unfold mP at this
 rw[hp]at this
 exact this
theorem jZ {w:World} {d:Int} {x:eB} (h:aC g D w p mb ib nb T) (hx:ah d T=some x) (hk:x.kind=2):w.cell? ⟨ib d,7,none⟩=some (.map (some (nb d)))∧MapAt bV w (nb d) (bC x):=by
 have hi:=h.item d x hx
 obtain⟨_,_,_,_,_,_,c7,_⟩:=hi.cell
 unfold dH at c7
 rw[if_pos hk]at c7
 exact⟨c7,hi.names hk⟩
theorem LP {nm:Nm} (h:dM nm=true):bV.ok nm:=by
 have:=qH nm h
 show nm.length≤maxLen
 unfold maxLen;omega
theorem Bd {w w':World} {d:Int} {x:eB} {n:Nm} (h:aC g D w p mb ib nb T) (hx:ah d T=some x) (hk:x.kind=2) (hM:MapAt bV w' (nb d) (bI n (bC x))) (hT:w.mapTurned w' (nb d)):aC g D w' p mb ib nb (aL T d n)∧Keeps (fun b=>g b≠ .none) w w':=
 ⟨h.cut hx hk hM hT,(eu hT).mono fun b _ hb=>by rw[show b=nb d from hb,h.kD d x hx hk];simp⟩
theorem gX {w w':World} {fp:Nat→Prop} (hb:Below w.heap.size w w'):Keeps fp w w':=(Keeps.below hb).mono fun b hb hb'=>absurd hb (by omega)
set_option maxRecDepth 100000 in
set_option maxHeartbeats 8000000 in
theorem Jk {S:Nat→Prop} (a:Option Addr) (n c:Nat) (ls:List Nm) (w:World) (h:aC g D w p mb ib nb T) (hT:dI T) (hS:aO S w a n (ls.map strOf)) (hc:n≤c) (nD:n≤1000000):
  Calls Tryz.prog 107 #[ptr p, .slice a n c] w (Turn g D w p mb (dP T ls).2 (.int .i64 (dP T ls).1)):=by
 have HH:=Lib.hid h
 have HT:=Lib.hid hT
 have HS:=Lib.hid hS
 have HF:=Lib.hid (sU (S:=S) a n c ls w hS)
 have mO:=Lib.hid (fun w1 (hb:Below w.heap.size w w1)=>oD a n c ls w1 (h.below hb (Nat.le_refl _)) hT (hS.below hb (Nat.le_refl _)))
 clear h hT hS
 by_cases hf:bG ls=0
 ·have rT:=Lib.hid hf
  rw[hf]at HF
  clear hf
  have rU:Hid (bq T ls=aD T 0 ls):=by unfold bq;rw[if_neg (by rw[rT.out];simp)];exact rfl
  obtain⟨⟨id,e0⟩,hq⟩:∃q,q=aD T 0 ls:=⟨_,rfl⟩
  have HQ:=Lib.hid hq
  rw[←hq]at mO rU
  clear hq
  by_cases he:e0=0
  ·subst he
   obtain⟨y,hy⟩:=Option.isSome_iff_exists.1 (mR HQ.out.symm HT.out)
   have HY:=Lib.hid hy
   have lS:=HT.out.ids id y hy
   have hok:aP.ok id:=gB lS.1 (by omega)
   have HG:Hid (ah id (T.map fun q=>(q.1,ptr (ib q.1)))=some (ptr (ib id))):=by rw[bZ,hy];rfl
   have HIT:Hid (∀w1,Below w.heap.size w w1→w1.cell? ⟨p,0,none⟩=some (.map (some mb))∧MapAt aP w1 mb (T.map fun q=>(q.1,ptr (ib q.1)))∧w1.cell? ⟨ib id,1,none⟩=some (.int .i64 y.kind)):=fun w1 hb=>by
    have h2:=HH.out.below hb (Nat.le_refl _)
    obtain⟨_,c1,c2,_⟩:=(h2.item id y HY.out).cell
    exact⟨h2.cell.1,h2.map,c1⟩
   clear hy
   by_cases hk:y.kind=2
   ·have HM:Hid (dP T ls=(22,T)):=by
     have:jk T ls=22:=by
      unfold jk
      rw[rU.out,←HQ.out,if_neg (by simp),if_pos ((bR HY.out).trans hk)]
     unfold dP;rw[this]<;>exact rfl
    go_enter Tryz.func107,Tryz.ntmps107
    go_wp2_with fail
    (with_reducible refine HF.out.mono ?_)
    rintro e w1 ⟨rfl,hb1⟩
    have HB1:=Lib.hid hb1
    clear hb1
    go_wp2_with fail
    (with_reducible refine(mO.out w1 HB1.out).mono ?_)
    rintro e w2 ⟨rfl,rfl⟩
    obtain⟨c0,hmap,c1⟩:=HIT.out w1 HB1.out
    rw[hk]at c1
    have fU:=Lib.hid hmap
    clear hmap
    go_wp2_with (first|(at_lookup;refine aJ aP rfl _ _ 95 88 rfl Tryz.underlying95 (Tryz.aQ _) rfl fU.out id rfl hok ?_;rw[HG.out]))
    go_ret
    rw[HM.out]
    exact Turn.same HH.out HB1.out rfl
   ·have hkk:(y.kind==2)=false:=by simpa using hk
    have hp:ls≠[]:=fun e=>by
     have h1:id=0:=congrArg Prod.fst (HQ.out.trans (by rw[e]<;>exact(rfl:aD T 0 []=(0,0))))
     have:=HT.out.root
     rw[←h1,bR HY.out]at this
     exact hk this
    obtain⟨d,x,nm,e1,-,hx,hxk,hn,hmem,-⟩:=dL HQ.out.symm hp
    have CJ:=Lib.hid (ig rT.out _ hmem)
    have kE:=LP CJ.out
    have HM:Hid (dP T ls=(0,gI (bX id (fun x=>{x with links:=x.links-1}) (aL T d nm)) id)):=by
     have:jk T ls=0:=by
      unfold jk
      rw[rU.out,←HQ.out,if_neg (by simp),if_neg (by rw[bR HY.out];exact hk)]
     unfold dP sN;rw[this,←HQ.out,e1];exact rfl
    have sK:=Lib.hid (fun w1 (hb:Below w.heap.size w w1)=>xM a n c ls w1 (HH.out.below hb (Nat.le_refl _)) HT.out (HS.out.below hb (Nat.le_refl _)) hc nD e1)
    have HX:=Lib.hid hx
    have vN:=Lib.hid hxk
    have hdi:id≠d:=fun e=>by subst e;rw[HY.out]at hx;cases hx;exact hk hxk
    have YB:=Lib.hid hdi
    have qI:=Lib.hid (fun w2 (hb:Below w.heap.size w w2)=>jZ (HH.out.below hb (Nat.le_refl _)) hx hxk)
    have Ze:Hid ((Lit.int .i64 id).wf=true):=hok
    have hln:=(HT.out.each id y HY.out).links
    clear hk hp e1 hx hxk hn hmem hdi
    go_enter Tryz.func107,Tryz.ntmps107
    go_wp2_with fail
    (with_reducible refine HF.out.mono ?_)
    rintro e w1 ⟨rfl,hb1⟩
    have HB1:=Lib.hid hb1
    clear hb1
    go_wp2_with fail
    (with_reducible refine(mO.out w1 HB1.out).mono ?_)
    rintro e w2 ⟨rfl,rfl⟩
    obtain⟨c0,hmap,c1⟩:=HIT.out w1 HB1.out
    have fU:=Lib.hid hmap
    clear hmap
    go_wp2_with (first|(at_lookup;refine aJ aP rfl _ _ 95 88 rfl Tryz.underlying95 (Tryz.aQ _) rfl fU.out id rfl hok ?_;rw[HG.out]))
    (with_reducible refine(sK.out w1 HB1.out).mono ?_)
    rintro e w2 ⟨rfl,hb2⟩
    have HB2:=Lib.hid (HB1.out.trans (hb2.mono HB1.out.size))
    clear hb2
    obtain⟨d7,eY⟩:=qI.out w2 HB2.out
    have mF:=Lib.hid eY
    have HA2:=Lib.hid (HH.out.below HB2.out (Nat.le_refl _))
    clear eY
    have rJ:Hid (∀w3,MapAt bV w3 (nb d) (bI nm (bC x))→w2.mapTurned w3 (nb d)→(aC g D w3 p mb ib nb (aL T d nm)∧Keeps (fun b=>g b≠ .none) w2 w3)∧ah id (aL T d nm)=some y∧w3.cell? ⟨ib id,2,none⟩=some (.int .i64 y.links)∧w3.frozen? ⟨ib id,2,none⟩=false):=fun w3 hM PN=>by
     have h3:=Bd HA2.out HX.out vN.out hM PN
     have hy3:ah id (aL T d nm)=some y:=by unfold aL;rw[aV,if_neg YB.out];exact HY.out
     exact⟨h3,hy3,(h3.1.item id y hy3).cell.2.2.1,(h3.1.item id y hy3).frozen 2⟩
    go_wp2_with (at_delete;refine jG bV rfl _ _ 92 3 rfl Tryz.underlying92 rfl mF.out nm rfl kE ?_;intro w3 PY wI;obtain⟨hA3,hy3,g2,gf2⟩:=rJ.out w3 PY wI;have LQ:=Lib.hid hA3;have YC:=Lib.hid hy3;clear hA3 PY wI hy3)
    have hA3:=LQ.out
    have hgi:=HH.out.lZ id y HY.out
    have BZ:aC g D (w3.setCell ⟨ib id,2,none⟩ (.int .i64 (y.links-1))) p mb ib nb (bX id (fun x=>{x with links:=x.links-1}) (aL T d nm)):=
     hA3.1.fields YC.out (fun x=>{x with links:=x.links-1}) rfl rfl rfl (Keeps.lN w3 ⟨ib id,2,none⟩ _) (by rw[size_set]) fun a c hc=>by rw[aX hc];rfl
    have hy4:ah id (bX id (fun x=>{x with links:=x.links-1}) (aL T d nm))=some {y with links:=y.links-1}:=by rw[aV,if_pos rfl,YC.out];rfl
    have ny:Hid (Keeps (fun b=>g b≠ .none) w (w3.setCell ⟨ib id,2,none⟩ (.int .i64 (y.links-1)))):=
     ((gX HB2.out).trans hA3.2 (fun _ _ h=>h)).trans ((Keeps.lN w3 ⟨ib id,2,none⟩ _).mono fun b _ hb=>by rw[show b=ib id from hb,hgi];simp) (fun _ _ h=>h)
    have Te:=Lib.hid (xE id hy4 Ze.out _ BZ)
    have HGM:=Lib.hid HH.out.iG
    clear hA3 hgi BZ hy4
    (with_reducible refine Te.out.mono ?_)
    rintro e w5 ⟨rfl,B_,PZ,_⟩
    have Tf:=Lib.hid B_
    have Db:=Lib.hid PZ
    clear B_ PZ
    go_wp2_with fail
    go_ret
    rw[HM.out]
    exact Turn.of rfl Tf.out (ny.out.trans (Db.out.mono fun b _ hb=>by rw[show b=mb from hb,HGM.out];simp) (fun _ _ h=>h))
  ·have hne:(e0==0)=false:=by simpa using he
   have hne2:(e0 !=0)=true:=by simpa using he
   have HM:Hid (dP T ls=(e0,T)):=by
    have:jk T ls=e0:=by
     unfold jk
     rw[rU.out,if_pos he]
    unfold dP;rw[this,if_neg he];exact rfl
   clear he
   go_enter Tryz.func107,Tryz.ntmps107
   go_wp2_with fail
   (with_reducible refine HF.out.mono ?_)
   rintro e w1 ⟨rfl,hb1⟩
   have HB1:=Lib.hid hb1
   clear hb1
   go_wp2_with fail
   (with_reducible refine(mO.out w1 HB1.out).mono ?_)
   rintro e w2 ⟨rfl,rfl⟩
   go_wp2_with fail
   go_ret
   rw[HM.out]
   exact Turn.same HH.out HB1.out rfl
 ·have HM:Hid (dP T ls=(bG ls,T)):=by
   have:jk T ls=bG ls:=by unfold jk bq;rw[if_pos hf,if_pos hf]
   unfold dP;rw[this,if_neg hf];exact rfl
  have hne:(bG ls==0)=false:=by simpa using hf
  have hne2:(bG ls !=0)=true:=by simpa using hf
  clear hf
  go_enter Tryz.func107,Tryz.ntmps107
  go_wp2_with fail
  (with_reducible refine HF.out.mono ?_)
  rintro e w1 ⟨rfl,hb1⟩
  go_wp2_with fail
  go_ret
  rw[HM.out]
  exact Turn.same HH.out hb1 rfl
set_option maxRecDepth 100000 in
set_option maxHeartbeats 8000000 in
theorem LU {S:Nat→Prop} (a:Option Addr) (n c:Nat) (ls:List Nm) (w:World) (h:aC g D w p mb ib nb T) (hT:dI T) (hS:aO S w a n (ls.map strOf)) (hc:n≤c) (nD:n≤1000000):
  Calls Tryz.prog 45 #[ptr p, .slice a n c] w (Turn g D w p mb (eT T ls).2 (.int .i64 (eT T ls).1)):=by
 have HH:=Lib.hid h
 have HT:=Lib.hid hT
 have HS:=Lib.hid hS
 have HF:=Lib.hid (sU (S:=S) a n c ls w hS)
 have mO:=Lib.hid (fun w1 (hb:Below w.heap.size w w1)=>oD a n c ls w1 (h.below hb (Nat.le_refl _)) hT (hS.below hb (Nat.le_refl _)))
 clear h hT hS
 by_cases hf:bG ls=0
 ·have rT:=Lib.hid hf
  rw[hf]at HF
  clear hf
  have rU:Hid (bq T ls=aD T 0 ls):=by unfold bq;rw[if_neg (by rw[rT.out];simp)];exact rfl
  obtain⟨⟨id,e0⟩,hq⟩:∃q,q=aD T 0 ls:=⟨_,rfl⟩
  have HQ:=Lib.hid hq
  rw[←hq]at mO rU
  clear hq
  by_cases he:e0=0
  ·subst he
   obtain⟨y,hy⟩:=Option.isSome_iff_exists.1 (mR HQ.out.symm HT.out)
   have HY:=Lib.hid hy
   have lS:=HT.out.ids id y hy
   have hok:aP.ok id:=gB lS.1 (by omega)
   have HG:Hid (ah id (T.map fun q=>(q.1,ptr (ib q.1)))=some (ptr (ib id))):=by rw[bZ,hy];rfl
   have HIT:Hid (∀w1,Below w.heap.size w w1→w1.cell? ⟨p,0,none⟩=some (.map (some mb))∧MapAt aP w1 mb (T.map fun q=>(q.1,ptr (ib q.1)))∧w1.cell? ⟨ib id,1,none⟩=some (.int .i64 y.kind)):=fun w1 hb=>by
    have h2:=HH.out.below hb (Nat.le_refl _)
    obtain⟨_,c1,c2,_⟩:=(h2.item id y HY.out).cell
    exact⟨h2.cell.1,h2.map,c1⟩
   clear hy
   by_cases hk:y.kind=2
   ·rw[hk]at HIT
    have Td:=Lib.hid hk
    clear hk
    by_cases h0:id=0
    ·have HM:Hid (eT T ls=(1,T)):=by
      have:iX T ls=1:=by
       unfold iX
       rw[rU.out,←HQ.out,if_neg (by simp),if_neg (by rw[bR HY.out,Td.out];simp),if_pos h0]
      unfold eT;rw[this]<;>exact rfl
     have hd0:(id==0)=true:=by simpa using h0
     clear h0
     go_enter Tryz.func45,Tryz.ntmps45
     go_wp2_with fail
     (with_reducible refine HF.out.mono ?_)
     rintro e w1 ⟨rfl,hb1⟩
     have HB1:=Lib.hid hb1
     clear hb1
     go_wp2_with fail
     (with_reducible refine(mO.out w1 HB1.out).mono ?_)
     rintro e w2 ⟨rfl,rfl⟩
     obtain⟨c0,hmap,c1⟩:=HIT.out w1 HB1.out
     have fU:=Lib.hid hmap
     clear hmap
     go_wp2_with (first|(at_lookup;refine aJ aP rfl _ _ 95 88 rfl Tryz.underlying95 (Tryz.aQ _) rfl fU.out id rfl hok ?_;rw[HG.out]))
     go_ret
     rw[HM.out]
     exact Turn.same HH.out HB1.out rfl
    ·have hd0:(id==0)=false:=by simpa using h0
     have Dc:=Lib.hid h0
     have LV:=Lib.hid (fun w2 (hb:Below w.heap.size w w2)=>jZ (HH.out.below hb (Nat.le_refl _)) HY.out Td.out)
     have Pv:Hid ((bC y).length=y.names.length):=by unfold bC;rw[List.length_map]<;>exact rfl
     clear h0
     by_cases hfull:0<y.names.length
     ·have HM:Hid (eT T ls=(24,T)):=by
       have hnm:aM T id=y.names:=by unfold aM;rw[HY.out]
       have:iX T ls=24:=by
        unfold iX
        rw[rU.out,←HQ.out,if_neg (by simp),if_neg (by rw[bR HY.out,Td.out];simp),if_neg Dc.out,hnm,if_pos hfull]
       unfold eT;rw[this]<;>exact rfl
      have hd:decide ((0:Int)<(y.names.length:Int))=true:=by simp;omega
      have hd2:decide (0<y.names.length)=true:=by simpa using hfull
      go_enter Tryz.func45,Tryz.ntmps45
      go_wp2_with fail
      (with_reducible refine HF.out.mono ?_)
      rintro e w1 ⟨rfl,hb1⟩
      have HB1:=Lib.hid hb1
      clear hb1
      go_wp2_with fail
      (with_reducible refine(mO.out w1 HB1.out).mono ?_)
      rintro e w2 ⟨rfl,rfl⟩
      obtain⟨c0,hmap,c1⟩:=HIT.out w1 HB1.out
      have fU:=Lib.hid hmap
      clear hmap
      obtain⟨y7,hyn⟩:=LV.out w1 HB1.out
      have Zf:=Lib.hid hyn
      clear hyn
      go_wp2_with (first|(at_lookup;refine aJ aP rfl _ _ 95 88 rfl Tryz.underlying95 (Tryz.aQ _) rfl fU.out id rfl hok ?_;rw[HG.out])|(at_len;refine iI bV rfl _ 92 3 rfl Tryz.underlying92 rfl Zf.out ?_;rw[Pv.out]))
      go_ret
      rw[HM.out]
      exact Turn.same HH.out HB1.out rfl
     ·have HNY:Hid (y.names=[]):=by
       have:y.names=[]:=List.eq_nil_of_length_eq_zero (by omega)
       exact this
      have hn0:y.names.length=0:=by omega
      have rM:=Lib.hid hn0
      have hp:ls≠[]:=fun e=>by
       have h1:id=0:=congrArg Prod.fst (HQ.out.trans (by rw[e]<;>exact(rfl:aD T 0 []=(0,0))))
       exact Dc.out h1
      obtain⟨d,x,nm,e1,-,hx,hxk,hn,hmem,-⟩:=dL HQ.out.symm hp
      have CJ:=Lib.hid (ig rT.out _ hmem)
      have kE:=LP CJ.out
      have HM:Hid (eT T ls=(0,bI id (aL T d nm))):=by
       have hnm:aM T id=y.names:=by unfold aM;rw[HY.out]
       have:iX T ls=0:=by
        unfold iX
        rw[rU.out,←HQ.out,if_neg (by simp),if_neg (by rw[bR HY.out,Td.out];simp),if_neg Dc.out,hnm,if_neg (by omega)]
       unfold eT wL;rw[this,←HQ.out,e1]<;>exact rfl
      have sK:=Lib.hid (fun w1 (hb:Below w.heap.size w w1)=>xM a n c ls w1 (HH.out.below hb (Nat.le_refl _)) HT.out (HS.out.below hb (Nat.le_refl _)) hc nD e1)
      have HX:=Lib.hid hx
      have vN:=Lib.hid hxk
      have hdi:id≠d:=fun e=>by subst e;rw[HY.out]at hx;cases hx;rw[HNY.out]at hn;cases hn
      have YB:=Lib.hid hdi
      have qI:=Lib.hid (fun w2 (hb:Below w.heap.size w w2)=>jZ (HH.out.below hb (Nat.le_refl _)) hx hxk)
      clear hp e1 hx hxk hn hmem hdi hfull hn0
      go_enter Tryz.func45,Tryz.ntmps45
      go_wp2_with fail
      (with_reducible refine HF.out.mono ?_)
      rintro e w1 ⟨rfl,hb1⟩
      have HB1:=Lib.hid hb1
      clear hb1
      go_wp2_with fail
      (with_reducible refine(mO.out w1 HB1.out).mono ?_)
      rintro e w2 ⟨rfl,rfl⟩
      obtain⟨c0,hmap,c1⟩:=HIT.out w1 HB1.out
      have fU:=Lib.hid hmap
      clear hmap
      obtain⟨y7,hyn⟩:=LV.out w1 HB1.out
      have Zf:=Lib.hid hyn
      clear hyn
      go_wp2_with (first|(at_lookup;refine aJ aP rfl _ _ 95 88 rfl Tryz.underlying95 (Tryz.aQ _) rfl fU.out id rfl hok ?_;rw[HG.out])|(at_len;refine iI bV rfl _ 92 3 rfl Tryz.underlying92 rfl Zf.out ?_;rw[Pv.out,rM.out]))
      (with_reducible refine(sK.out w1 HB1.out).mono ?_)
      rintro e w2 ⟨rfl,hb2⟩
      have HB2:=Lib.hid (HB1.out.trans (hb2.mono HB1.out.size))
      clear hb2
      obtain⟨d7,eY⟩:=qI.out w2 HB2.out
      have mF:=Lib.hid eY
      have HA2:=Lib.hid (HH.out.below HB2.out (Nat.le_refl _))
      clear eY
      have rJ:Hid (∀w3,MapAt bV w3 (nb d) (bI nm (bC x))→w2.mapTurned w3 (nb d)→(aC g D w3 p mb ib nb (aL T d nm)∧Keeps (fun b=>g b≠ .none) w2 w3)∧w3.cell? ⟨p,0,none⟩=some (.map (some mb))∧MapAt aP w3 mb (T.map fun q=>(q.1,ptr (ib q.1)))):=fun w3 hM PN=>by
       have h3:=Bd HA2.out HX.out vN.out hM PN
       have hm:=h3.1.map
       unfold aL at hm
       rw[uE _ _ _ (fun j=>ptr (ib j))]at hm
       exact⟨h3,h3.1.cell.1,hm⟩
      go_wp2_with (first|(at_delete;refine jG bV rfl _ _ 92 3 rfl Tryz.underlying92 rfl mF.out nm rfl kE ?_;intro w3 PY wI;obtain⟨hA3,hp3,Ey⟩:=rJ.out w3 PY wI;have LQ:=Lib.hid hA3;have xO:=Lib.hid Ey;clear hA3 PY wI Ey)|(at_delete;refine jG aP rfl _ _ 95 88 rfl Tryz.underlying95 rfl xO.out id rfl hok ?_;intro w4 oG kN;have lT:=Lib.hid oG;have Ew:=Lib.hid kN;clear oG kN))
      go_ret
      rw[HM.out]
      have hA3:=LQ.out
      have hsz:=gQ Ew.out
      have BZ:aC g D w4 p mb ib nb (bI id (aL T d nm)):=by
       refine hA3.1.del ?_ (by omega) (fun b hb S_=>bQ Ew.out b hb S_)
       unfold aL
       rw[uE _ _ _ (fun j=>ptr (ib j))]
       exact lT.out
      have hgm:=HH.out.iG
      exact Turn.of rfl BZ (((gX HB2.out).trans hA3.2 (fun _ _ h=>h)).trans ((eu Ew.out).mono fun b _ hb=>by rw[show b=mb from hb,hgm];simp) (fun _ _ h=>h))
   ·have hkk:(y.kind==2)=false:=by simpa using hk
    have HM:Hid (eT T ls=(23,T)):=by
     have:iX T ls=23:=by
      unfold iX
      rw[rU.out,←HQ.out,if_neg (by simp),if_pos (by rw[bR HY.out];exact hk)]
     unfold eT;rw[this]<;>exact rfl
    go_enter Tryz.func45,Tryz.ntmps45
    go_wp2_with fail
    (with_reducible refine HF.out.mono ?_)
    rintro e w1 ⟨rfl,hb1⟩
    have HB1:=Lib.hid hb1
    clear hb1
    go_wp2_with fail
    (with_reducible refine(mO.out w1 HB1.out).mono ?_)
    rintro e w2 ⟨rfl,rfl⟩
    obtain⟨c0,hmap,c1⟩:=HIT.out w1 HB1.out
    have fU:=Lib.hid hmap
    clear hmap
    go_wp2_with (first|(at_lookup;refine aJ aP rfl _ _ 95 88 rfl Tryz.underlying95 (Tryz.aQ _) rfl fU.out id rfl hok ?_;rw[HG.out]))
    go_ret
    rw[HM.out]
    exact Turn.same HH.out HB1.out rfl
  ·have hne:(e0==0)=false:=by simpa using he
   have hne2:(e0 !=0)=true:=by simpa using he
   have HM:Hid (eT T ls=(e0,T)):=by
    have:iX T ls=e0:=by
     unfold iX
     rw[rU.out,if_pos he]
    unfold eT;rw[this,if_neg he];exact rfl
   clear he
   go_enter Tryz.func45,Tryz.ntmps45
   go_wp2_with fail
   (with_reducible refine HF.out.mono ?_)
   rintro e w1 ⟨rfl,hb1⟩
   have HB1:=Lib.hid hb1
   clear hb1
   go_wp2_with fail
   (with_reducible refine(mO.out w1 HB1.out).mono ?_)
   rintro e w2 ⟨rfl,rfl⟩
   go_wp2_with fail
   go_ret
   rw[HM.out]
   exact Turn.same HH.out HB1.out rfl
 ·have HM:Hid (eT T ls=(bG ls,T)):=by
   have:iX T ls=bG ls:=by unfold iX bq;rw[if_pos hf,if_pos hf]
   unfold eT;rw[this,if_neg hf];exact rfl
  have hne:(bG ls==0)=false:=by simpa using hf
  have hne2:(bG ls !=0)=true:=by simpa using hf
  clear hf
  go_enter Tryz.func45,Tryz.ntmps45
  go_wp2_with fail
  (with_reducible refine HF.out.mono ?_)
  rintro e w1 ⟨rfl,hb1⟩
  go_wp2_with fail
  go_ret
  rw[HM.out]
  exact Turn.same HH.out hb1 rfl
end
def maxD (d:Int→Nat) (l:List (Nm×Int)):Nat:=(l.map fun e=>1+d e.2).foldr Nat.max 0
theorem wR (d:Int→Nat):∀{l:List (Nm×Int)} {e:Nm×Int},e∈l→1+d e.2≤maxD d l
 |x::r,e,h=>by
  have e1:maxD d (x::r)=Nat.max (1+d x.2) (maxD d r):=rfl
  rw[e1]
  rcases List.mem_cons.1 h with rfl|h
  ·exact Nat.le_max_left _ _
  ·exact Nat.le_trans (wR d h) (Nat.le_max_right _ _)
theorem maxD_le (d:Int→Nat) {m:Nat}:∀{l:List (Nm×Int)},(∀e∈l,1+d e.2≤m)→maxD d l≤m
 |[],_=>Nat.zero_le _
 |x::r,h=>by
  have e1:maxD d (x::r)=Nat.max (1+d x.2) (maxD d r):=rfl
  rw[e1]
  exact Nat.max_le.2 ⟨h x (by simp),maxD_le d fun e he=>h e (by simp[he])⟩
def j3 (T:aK):Nat→Int→Nat
 |0,_=>0
 |n+1,id=>maxD (j3 T n) (aM T id)
def xP (T:aK):Nat→Int→Prop
 |0,id=>aM T id=[]
 |n+1,id=>∀e∈aM T id,xP T n e.2
theorem xP.le {T:aK}:∀{n:Nat} {id:Int},xP T n id→j3 T n id≤n
 |0,_,_=>Nat.le_refl _
 |n+1,id,h=>maxD_le _ fun e he=>by have:=(h e he).le;omega
section
variable {P:Program} {w:World} {ops:Array Oper} {rest:List Oper} {o:Oper} {a:Act} {Q:Exit→Act→World→Prop}
theorem oJ (hg:o.guard=none) (m:Operand) (t k e:TypeId) (hop:o.op=Op.range t m) (ht:P.underlying t=some (.map k e)) (hm:a.eval m= .map none)
  (h:wpList P ops Q rest (a.put o.dst (.pointer (some ⟨w.heap.size,0,none⟩))) (w.alloc (.mapIter none 0 #[] 0))):wpList P ops Q (o::rest) a w:=by
 refine wpList_plain hg fun K' hK'=> ?_
 have hrun:(Instr.range t (.map none)).run P w= .ok (.pointer (some ⟨w.heap.size,0,none⟩)) (w.alloc (.mapIter none 0 #[] 0)):=by
  simp[Instr.range,run_underlying ht,Result.andThen]
 unfold Oper.wp
 simp[execOp,hop,hm,hrun,Result.andThen]
 exact hK' _ _ h
theorem qj (hg:o.guard=none) (it:Operand) (hop:o.op=Op.next it false) {r:Nat} (hit:a.eval it= .pointer (some ⟨r,0,none⟩)) (hr:w.heap[r]? =some (.mapIter none 0 #[] 0))
  (h:wpList P ops Q rest (a.put o.dst (.tuple #[.bool false])) w):wpList P ops Q (o::rest) a w:=by
 refine wpList_plain hg fun K' hK'=> ?_
 have hrun:(Instr.next (.pointer (some ⟨r,0,none⟩)) false o.type).run P w= .ok (.tuple #[.bool false]) w:=by
  simp only[Instr.next,getObj,Sem.run_bind,Sem.run,hr,Result.andThen]
  rfl
 unfold Oper.wp
 simp[execOp,hop,hit,hrun,Result.andThen]
 exact hK' _ _ h
end
section
variable {g:Nat→Own} {D:Nat→Prop} {p mb:Nat} {ib nb:Int→Nat} {T:aK}
def rZ (p:Nat) (w:World) (id:Int) (n:Nat):Prop:=Calls Tryz.prog 109 #[ptr p, .int .i64 id] w fun e w'=>e= .returned (.int .i64 n)∧Below w.heap.size w w'
def P5 (w:World) (d:Int→Nat) (x:eB) (Zg r:Nat) (v:Value) (wr:World):Prop:=
 ∃(m:Nat) (left:Nm→Bool) (cnt:Nat),v= .int .i64 m∧m≤maxD d x.names∧(∀e∈x.names,left e.1=false→1+d e.2≤m)∧dZ bV wr Zg r (bC x) left cnt∧Below w.heap.size w wr
set_option maxHeartbeats 1000000 in
theorem Aa (id:Int) (x:eB) (d:Int→Nat) (w:World) (h:aC g D w p mb ib nb T) (hT:dI T) (hx:ah id T=some x) (hd:∀e∈x.names,d e.2≤64)
  (hc:∀e∈x.names,∀w1,Below w.heap.size w w1→rZ p w1 e.2 (d e.2)):rZ p w id (maxD d x.names):=by
 obtain⟨hc0,hpw,hmw⟩:=h.cell
 have lS:=hT.ids id x hx
 have hok:aP.ok id:=gB lS.1 (by omega)
 obtain⟨c0,c1,c2,c3,c4,c5,c7,hiw⟩:=(h.item id x hx).cell
 have hget:ah id (T.map fun q=>(q.1,ptr (ib q.1)))=some (ptr (ib id)):=by rw[bZ,hx];rfl
 have HG:=Lib.hid hget
 have fU:=Lib.hid h.map
 have HC:=Lib.hid hc
 have HD:=Lib.hid hd
 have O1:=Lib.hid (hT.each id x hx)
 by_cases hk:x.kind=2
 ·have e2:dH x (nb id)= .map (some (nb id)):=if_pos hk
  rw[e2]at c7
  have HN:=Lib.hid ((h.item id x hx).names hk)
  have hbw:=HN.out.lt
  clear hget hc hd h hk e2 hT
  unfold rZ
  go_enter Tryz.func109,Tryz.ntmps109
  go_wp2_with (first|(at_lookup;refine aJ aP rfl _ _ 95 88 rfl Tryz.underlying95 (Tryz.aQ _) rfl fU.out id rfl hok ?_;rw[HG.out])|(at_range;refine ku bV rfl _ 92 3 rfl Tryz.underlying92 rfl HN.out ?_;intro w0 hR0 hB0 hs0))
  go_frame
  go_loopw [5,7] (fun v _ wr=>P5 w d x (nb id) w.heap.size v wr) (fun _ _ wr=>wr.rangeLeft (nb id) w.heap.size)
  case atStart=>
   refine⟨0,_,_,rfl,Nat.zero_le _,fun e he hl=> ?_,hR0,hB0⟩
   simp only[dK]at hl
   rw[aY uD O1.out.sorted he]at hl
   cases hl
  case round=>
   obtain⟨m,left,cnt,rfl,hm,VO,hR,hB⟩:=hrel
   have HB:=Lib.hid hB
   have VP:=Lib.hid VO
   have HR:=Lib.hid hR
   have hmd:maxD d x.names≤65:=maxD_le d fun e he=>by have:=HD.out e he;omega
   clear VO hR hB
   go_wp2_with (first|(at_next;refine lM bV rfl _ rfl rfl HR.out ?_ ?_))
   ·intro hdone
    have G8:=Lib.hid hdone
    clear hdone
    go_wp2
    go_ret
    refine⟨eO ?_,HB.out⟩
    have:maxD d x.names≤m:=maxD_le d fun e he=>VP.out e he (G8.out _)
    omega
   ·intro k v w3 cnt1 Jl hleft hg2 kP hlt hK1 hs1 hen
    rw[dK]at hg2
    cases hk2:ah k x.names with
    |none=>rw[hk2]at hg2;cases hg2
    |some j=>
     rw[hk2]at hg2
     cases hg2
     have hmem:=dB hk2
     have hB3:Below w.heap.size w w3:=⟨hK1.os.trans HB.out.os,hK1.tape.trans HB.out.tape,hK1.output.trans HB.out.output,by rw[hs1];exact HB.out.size,fun b hb=>(hK1.block b (by have:=HB.out.size;omega) (by omega)).trans (HB.out.block b hb)⟩
     have HCH:=Lib.hid (HC.out _ hmem w3 hB3)
     have hdj:=HD.out _ hmem
     have hjm:=wR d hmem
     have HB3:=Lib.hid hB3
     have HR1:=Lib.hid kP
     have yZ:=Lib.hid hk2
     have oK:=Lib.hid hlt
     simp only at hdj hjm
     have e1:IntKind.i64.wrap (1+(d j:Int))=1+(d j:Int):=IntWalk.i64_in _ (by omega)
     have hrw:=HR.out.lt
     clear hk2 hmem kP hB3 hlt hK1
     show wpList _ _ _ _ _ _
     have e3:bV.val k= .string (strOf k):=rfl
     rw[e3]at hen⊢
     clear e3
     have Zh:=Lib.hid (show Calls Tryz.prog 109 #[ptr p, .int .i64 j] w3 _ from HCH.out)
     go_wp2_with fail
     (with_reducible refine Zh.out.mono ?_)
     rintro e w4 ⟨rfl,hb4⟩
     have iq:=Lib.hid hb4
     clear hb4
     go_wp2_with fail
     go_roundw
     case rel=>
      have hs4:=iq.out.size
      refine⟨Nat.max m (1+d j),_,cnt1,?_,Nat.max_le.2 ⟨hm,hjm⟩,fun e he hl=> ?_,HR1.out.kept (iq.out.block _ HR1.out.lt.1) (iq.out.block _ HR1.out.lt.2.1),HB3.out.trans (iq.out.mono HB3.out.size)⟩
      ·congr 1
       show max (m:Int) (1+(d j:Int))=((Nat.max m (1+d j):Nat):Int)
       rcases Nat.le_total m (1+d j)with h0|h0
       ·rw[show Nat.max m (1+d j)=1+d j from Nat.max_eq_right h0];omega
       ·rw[show Nat.max m (1+d j)=m from Nat.max_eq_left h0];omega
      ·by_cases hek:e.1=k
       ·have h1:=aY uD O1.out.sorted he
        rw[hek,yZ.out]at h1
        have h2:j=e.2:=Option.some.inj h1
        rw[←h2]
        exact Nat.le_max_right _ _
       ·refine Nat.le_trans (VP.out e he ?_) (Nat.le_max_left _ _)
        simpa[hek]using hl
     case measure=>
      have h4:dZ bV w4 (nb id) w.heap.size (bC x) _ cnt1:=HR1.out.kept (iq.out.block _ HR1.out.lt.1) (iq.out.block _ HR1.out.lt.2.1)
      rw[h4.measure,HR.out.measure]
      exact oK.out
 ·have e2:dH x (nb id)= .map none:=if_neg hk
  rw[e2]at c7
  have hnil:x.names=[]:=O1.out.file (O1.out.kind.resolve_right hk)
  have Tn:=Lib.hid hnil
  clear hget hc hd h hk e2 hT hnil
  unfold rZ
  rw[Tn.out]
  go_enter Tryz.func109,Tryz.ntmps109
  go_wp2_with (first|(at_lookup;refine aJ aP rfl _ _ 95 88 rfl Tryz.underlying95 (Tryz.aQ _) rfl fU.out id rfl hok ?_;rw[HG.out])|(at_range;refine oJ rfl _ 92 9 3 rfl Tryz.underlying92 rfl ?_))
  go_frame
  go_loopw [5,7] (fun v _ wr=>v= .int .i64 0∧wr=w.alloc (.mapIter none 0 #[] 0)) (fun _ _ wr=>0)
  case atStart=>exact⟨rfl,rfl⟩
  case round=>
   obtain⟨rfl,rfl⟩:=hrel
   go_wp2_with (first|(at_next;refine qj rfl _ rfl rfl (MapKept.heap_alloc w _).1 ?_))
   go_ret
   exact⟨rfl,wall w _⟩
theorem Df (hT:dI T):∀(n:Nat) (id:Int) (w:World),aC g D w p mb ib nb T→(ah id T).isSome=true→xP T n id→n≤64→rZ p w id (j3 T n id)
 |0,id,w,h,hi,hs,hn=>by
  obtain⟨x,hx⟩:=Option.isSome_iff_exists.1 hi
  have e:x.names=[]:=by have h1:aM T id=[]:=hs;unfold aM at h1;rw[hx]at h1;exact h1
  have:=Aa id x (fun _=>0) w h hT hx (fun _ _=>Nat.zero_le _) (fun y he=>by rw[e]at he;cases he)
  rw[e]at this
  exact this
 |n+1,id,w,h,hi,hs,hn=>by
  obtain⟨x,hx⟩:=Option.isSome_iff_exists.1 hi
  have e:aM T id=x.names:=by unfold aM;rw[hx]
  have hs':∀e∈x.names,xP T n e.2:=fun y hy=>hs y (by rw[e];exact hy)
  have:=Aa id x (j3 T n) w h hT hx (fun y hy=>Nat.le_trans (hs' y hy).le (by omega)) (fun y hy w1 hb=>
   Df hT n y.2 w1 (h.below hb (Nat.le_refl _)) (hT.leads id x hx y hy).1 (hs' y hy) (by omega))
  rw[←e]at this
  exact this
end
end Go.Proofs.YtmabllemjkcobaaGreatDoor
