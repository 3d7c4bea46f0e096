/- tree: Look, Unlink, Rmdir. tree: deep. -/
import Derived.Test.YtohpcppeajijnaaGreatM16
namespace Go.Proofs.YtohpcppeajijnaaGreat
open Go.ChangeShapes Go.WideShapes Go.ChangeAt Go.RowKit
set_option linter.unusedVariables false
set_option linter.unusedSimpArgs false
section
variable {g:Nat→Own} {D:Nat→Prop} {p mb:Nat} {ib nb:Int→Nat} {T:aH}
theorem uV {S:Nat→Prop} {d:Int} {nm:Nm} (a:Option Addr) (n c:Nat) (ls:List Nm) (w:World) (h:aK g D w p mb ib nb T) (hT:dA T) (hS:aG S w a n (ls.map strOf)) (hc:n≤c) (jd:n≤1000000) (hp:aC T ls=(d,nm,0)):
  Calls Tryz.prog 60 #[ptr p, .slice a n c] w fun e w'=>e= .returned (.tuple #[ptr (ib d), .string (strOf nm), .int .i64 0])∧Below w.heap.size w w':=by
 have:=oQ a n c ls w h hT hS hc jd
 unfold kZ at this
 rw[hp]at this
 exact this
theorem jm {w:World} {d:Int} {x:bF} (h:aK g D w p mb ib nb T) (hx:aj d T=some x) (hk:x.kind=2):w.cell? ⟨ib d,7,none⟩=some (.map (some (nb d)))∧MapAt dx w (nb d) (bR x):=by
 have hi:=h.item d x hx
 obtain⟨_,_,_,_,_,_,c7,_⟩:=hi.cell
 unfold dJ at c7
 rw[if_pos hk]at c7
 exact⟨c7,hi.names hk⟩
theorem Gc {nm:Nm} (h:dG nm=true):dx.ok nm:=by
 have:=oq nm h
 show nm.length≤maxLen
 unfold maxLen;omega
theorem xR {w w':World} {d:Int} {x:bF} {n:Nm} (h:aK g D w p mb ib nb T) (hx:aj d T=some x) (hk:x.kind=2) (hM:MapAt dx w' (nb d) (bH n (bR x))) (hT:w.mapTurned w' (nb d)):aK g D w' p mb ib nb (aA T d n)∧Keeps (fun b=>g b≠ .none) w w':=
 ⟨h.cut hx hk hM hT,(dN hT).mono fun b _ hb=>by rw[show b=nb d from hb,h.ku d x hx hk];simp⟩
theorem gJ {w w':World} {fp:Nat→Prop} (hb:Below w.heap.size w w'):Keeps fp w w':=(Keeps.below hb).mono fun b hb hb'=>absurd hb (by omega)
set_option maxRecDepth 100000 in
set_option maxHeartbeats 8000000 in
theorem DJ {S:Nat→Prop} (a:Option Addr) (n c:Nat) (ls:List Nm) (w:World) (h:aK g D w p mb ib nb T) (hT:dA T) (hS:aG S w a n (ls.map strOf)) (hc:n≤c) (jd:n≤1000000):
  Calls Tryz.prog 18 #[ptr p, .slice a n c] w (Turn g D w p mb (bQ T ls).2 (.int .i64 (bQ T ls).1)):=by
 have HH:=Lib.hid h
 have HT:=Lib.hid hT
 have HS:=Lib.hid hS
 have HF:=Lib.hid (uN (S:=S) a n c ls w hS)
 have kK:=Lib.hid (fun w1 (hb:Below w.heap.size w w1)=>oo a n c ls w1 (h.below hb (Nat.le_refl _)) hT (hS.below hb (Nat.le_refl _)))
 clear h hT hS
 by_cases hf:bO ls=0
 ·have uO:=Lib.hid hf
  rw[hf]at HF
  clear hf
  have Ar:Hid (iD T ls=aF T 0 ls):=by unfold iD;rw[if_neg (by rw[uO.out];simp)];exact rfl
  obtain⟨⟨id,e0⟩,hq⟩:∃q,q=aF T 0 ls:=⟨_,rfl⟩
  have HQ:=Lib.hid hq
  rw[←hq]at kK Ar
  clear hq
  by_cases he:e0=0
  ·subst he
   obtain⟨y,hy⟩:=Option.isSome_iff_exists.1 (ni HQ.out.symm HT.out)
   have HY:=Lib.hid hy
   have nR:=HT.out.ids id y hy
   have hok:bP.ok id:=om nR.1 (by omega)
   have HG:Hid (aj id (T.map fun q=>(q.1,ptr (ib q.1)))=some (ptr (ib id))):=by rw[dX,hy];rfl
   have HIT:Hid (∀w1,Below w.heap.size w w1→w1.cell? ⟨p,0,none⟩=some (.map (some mb))∧MapAt bP w1 mb (T.map fun q=>(q.1,ptr (ib q.1)))∧w1.cell? ⟨ib id,1,none⟩=some (.int .i64 y.kind)):=fun w1 hb=>by
    have h2:=HH.out.below hb (Nat.le_refl _)
    obtain⟨_,c1,c2,_⟩:=(h2.item id y HY.out).cell
    exact⟨h2.cell.1,h2.map,c1⟩
   clear hy
   by_cases hk:y.kind=2
   ·have HM:Hid (bQ T ls=(22,T)):=by
     have:gH T ls=22:=by
      unfold gH
      rw[Ar.out,←HQ.out,if_neg (by simp),if_pos ((b_ HY.out).trans hk)]
     unfold bQ;rw[this]<;>exact rfl
    go_enter Tryz.func18,Tryz.ntmps18
    go_wp2_with fail
    (with_reducible refine HF.out.mono ?_)
    rintro e w1 ⟨rfl,hb1⟩
    have HB1:=Lib.hid hb1
    clear hb1
    go_wp2_with fail
    (with_reducible refine(kK.out w1 HB1.out).mono ?_)
    rintro e w2 ⟨rfl,rfl⟩
    obtain⟨c0,hmap,c1⟩:=HIT.out w1 HB1.out
    rw[hk]at c1
    have iE:=Lib.hid hmap
    clear hmap
    go_wp2_with (first|(at_lookup;refine aW bP rfl _ _ 94 92 rfl Tryz.underlying94 (Tryz.bI _) rfl iE.out id rfl hok ?_;rw[HG.out]))
    go_ret
    rw[HM.out]
    exact Turn.same HH.out HB1.out rfl
   ·have hkk:(y.kind==2)=false:=by simpa using hk
    have hp:ls≠[]:=fun e=>by
     have h1:id=0:=congrArg Prod.fst (HQ.out.trans (by rw[e]<;>exact(rfl:aF T 0 []=(0,0))))
     have:=HT.out.root
     rw[←h1,b_ HY.out]at this
     exact hk this
    obtain⟨d,x,nm,e1,-,hx,hxk,hn,hmem,-⟩:=bS HQ.out.symm hp
    have yP:=Lib.hid (gP uO.out _ hmem)
    have jw:=Gc yP.out
    have HM:Hid (bQ T ls=(0,fG (bf id (fun x=>{x with links:=x.links-1}) (aA T d nm)) id)):=by
     have:gH T ls=0:=by
      unfold gH
      rw[Ar.out,←HQ.out,if_neg (by simp),if_neg (by rw[b_ HY.out];exact hk)]
     unfold bQ mo;rw[this,←HQ.out,e1];exact rfl
    have ql:=Lib.hid (fun w1 (hb:Below w.heap.size w w1)=>uV a n c ls w1 (HH.out.below hb (Nat.le_refl _)) HT.out (HS.out.below hb (Nat.le_refl _)) hc jd e1)
    have HX:=Lib.hid hx
    have sN:=Lib.hid hxk
    have hdi:id≠d:=fun e=>by subst e;rw[HY.out]at hx;cases hx;exact hk hxk
    have QA:=Lib.hid hdi
    have ou:=Lib.hid (fun w2 (hb:Below w.heap.size w w2)=>jm (HH.out.below hb (Nat.le_refl _)) hx hxk)
    have RA:Hid ((Lit.int .i64 id).wf=true):=hok
    have hln:=(HT.out.each id y HY.out).links
    clear hk hp e1 hx hxk hn hmem hdi
    go_enter Tryz.func18,Tryz.ntmps18
    go_wp2_with fail
    (with_reducible refine HF.out.mono ?_)
    rintro e w1 ⟨rfl,hb1⟩
    have HB1:=Lib.hid hb1
    clear hb1
    go_wp2_with fail
    (with_reducible refine(kK.out w1 HB1.out).mono ?_)
    rintro e w2 ⟨rfl,rfl⟩
    obtain⟨c0,hmap,c1⟩:=HIT.out w1 HB1.out
    have iE:=Lib.hid hmap
    clear hmap
    go_wp2_with (first|(at_lookup;refine aW bP rfl _ _ 94 92 rfl Tryz.underlying94 (Tryz.bI _) rfl iE.out id rfl hok ?_;rw[HG.out]))
    (with_reducible refine(ql.out w1 HB1.out).mono ?_)
    rintro e w2 ⟨rfl,hb2⟩
    have HB2:=Lib.hid (HB1.out.trans (hb2.mono HB1.out.size))
    clear hb2
    obtain⟨d7,dY⟩:=ou.out w2 HB2.out
    have rU:=Lib.hid dY
    have HA2:=Lib.hid (HH.out.below HB2.out (Nat.le_refl _))
    clear dY
    have xS:Hid (∀w3,MapAt dx w3 (nb d) (bH nm (bR x))→w2.mapTurned w3 (nb d)→(aK g D w3 p mb ib nb (aA T d nm)∧Keeps (fun b=>g b≠ .none) w2 w3)∧aj id (aA T d nm)=some y∧w3.cell? ⟨ib id,2,none⟩=some (.int .i64 y.links)∧w3.frozen? ⟨ib id,2,none⟩=false):=fun w3 hM JD=>by
     have h3:=xR HA2.out HX.out sN.out hM JD
     have hy3:aj id (aA T d nm)=some y:=by unfold aA;rw[aS,if_neg QA.out];exact HY.out
     exact⟨h3,hy3,(h3.1.item id y hy3).cell.2.2.1,(h3.1.item id y hy3).frozen 2⟩
    go_wp2_with (at_delete;refine iX dx rfl _ _ 107 3 rfl Tryz.underlying107 rfl rU.out nm rfl jw ?_;intro w3 Om wD;obtain⟨hA3,hy3,g2,E_⟩:=xS.out w3 Om wD;have Gd:=Lib.hid hA3;have NT:=Lib.hid hy3;clear hA3 Om wD hy3)
    have hA3:=Gd.out
    have hgi:=HH.out.lF id y HY.out
    have Ao:aK g D (w3.setCell ⟨ib id,2,none⟩ (.int .i64 (y.links-1))) p mb ib nb (bf id (fun x=>{x with links:=x.links-1}) (aA T d nm)):=
     hA3.1.fields NT.out (fun x=>{x with links:=x.links-1}) rfl rfl rfl (Keeps.gX w3 ⟨ib id,2,none⟩ _) (by rw[size_set]) fun a c hc=>by rw[bJ hc];rfl
    have hy4:aj id (bf id (fun x=>{x with links:=x.links-1}) (aA T d nm))=some {y with links:=y.links-1}:=by rw[aS,if_pos rfl,NT.out];rfl
    have I_:Hid (Keeps (fun b=>g b≠ .none) w (w3.setCell ⟨ib id,2,none⟩ (.int .i64 (y.links-1)))):=
     ((gJ HB2.out).trans hA3.2 (fun _ _ h=>h)).trans ((Keeps.gX w3 ⟨ib id,2,none⟩ _).mono fun b _ hb=>by rw[show b=ib id from hb,hgi];simp) (fun _ _ h=>h)
    have LX:=Lib.hid (uP id hy4 RA.out _ Ao)
    have Yn:=Lib.hid HH.out.iW
    clear hA3 hgi Ao hy4
    (with_reducible refine LX.out.mono ?_)
    rintro e w5 ⟨rfl,AP,qI,_⟩
    have LY:=Lib.hid AP
    have Oo:=Lib.hid qI
    clear AP qI
    go_wp2_with fail
    go_ret
    rw[HM.out]
    exact Turn.of rfl LY.out (I_.out.trans (Oo.out.mono fun b _ hb=>by rw[show b=mb from hb,Yn.out];simp) (fun _ _ h=>h))
  ·have hne:(e0==0)=false:=by simpa using he
   have hne2:(e0 !=0)=true:=by simpa using he
   have HM:Hid (bQ T ls=(e0,T)):=by
    have:gH T ls=e0:=by
     unfold gH
     rw[Ar.out,if_pos he]
    unfold bQ;rw[this,if_neg he];exact rfl
   clear he
   go_enter Tryz.func18,Tryz.ntmps18
   go_wp2_with fail
   (with_reducible refine HF.out.mono ?_)
   rintro e w1 ⟨rfl,hb1⟩
   have HB1:=Lib.hid hb1
   clear hb1
   go_wp2_with fail
   (with_reducible refine(kK.out w1 HB1.out).mono ?_)
   rintro e w2 ⟨rfl,rfl⟩
   go_wp2_with fail
   go_ret
   rw[HM.out]
   exact Turn.same HH.out HB1.out rfl
 ·have HM:Hid (bQ T ls=(bO ls,T)):=by
   have:gH T ls=bO ls:=by unfold gH iD;rw[if_pos hf,if_pos hf]
   unfold bQ;rw[this,if_neg hf];exact rfl
  have hne:(bO ls==0)=false:=by simpa using hf
  have hne2:(bO ls !=0)=true:=by simpa using hf
  clear hf
  go_enter Tryz.func18,Tryz.ntmps18
  go_wp2_with fail
  (with_reducible refine HF.out.mono ?_)
  rintro e w1 ⟨rfl,hb1⟩
  go_wp2_with fail
  go_ret
  rw[HM.out]
  exact Turn.same HH.out hb1 rfl
set_option maxRecDepth 100000 in
set_option maxHeartbeats 8000000 in
theorem Gf {S:Nat→Prop} (a:Option Addr) (n c:Nat) (ls:List Nm) (w:World) (h:aK g D w p mb ib nb T) (hT:dA T) (hS:aG S w a n (ls.map strOf)) (hc:n≤c) (jd:n≤1000000):
  Calls Tryz.prog 14 #[ptr p, .slice a n c] w (Turn g D w p mb (cO T ls).2 (.int .i64 (cO T ls).1)):=by
 have HH:=Lib.hid h
 have HT:=Lib.hid hT
 have HS:=Lib.hid hS
 have HF:=Lib.hid (uN (S:=S) a n c ls w hS)
 have kK:=Lib.hid (fun w1 (hb:Below w.heap.size w w1)=>oo a n c ls w1 (h.below hb (Nat.le_refl _)) hT (hS.below hb (Nat.le_refl _)))
 clear h hT hS
 by_cases hf:bO ls=0
 ·have uO:=Lib.hid hf
  rw[hf]at HF
  clear hf
  have Ar:Hid (iD T ls=aF T 0 ls):=by unfold iD;rw[if_neg (by rw[uO.out];simp)];exact rfl
  obtain⟨⟨id,e0⟩,hq⟩:∃q,q=aF T 0 ls:=⟨_,rfl⟩
  have HQ:=Lib.hid hq
  rw[←hq]at kK Ar
  clear hq
  by_cases he:e0=0
  ·subst he
   obtain⟨y,hy⟩:=Option.isSome_iff_exists.1 (ni HQ.out.symm HT.out)
   have HY:=Lib.hid hy
   have nR:=HT.out.ids id y hy
   have hok:bP.ok id:=om nR.1 (by omega)
   have HG:Hid (aj id (T.map fun q=>(q.1,ptr (ib q.1)))=some (ptr (ib id))):=by rw[dX,hy];rfl
   have HIT:Hid (∀w1,Below w.heap.size w w1→w1.cell? ⟨p,0,none⟩=some (.map (some mb))∧MapAt bP w1 mb (T.map fun q=>(q.1,ptr (ib q.1)))∧w1.cell? ⟨ib id,1,none⟩=some (.int .i64 y.kind)):=fun w1 hb=>by
    have h2:=HH.out.below hb (Nat.le_refl _)
    obtain⟨_,c1,c2,_⟩:=(h2.item id y HY.out).cell
    exact⟨h2.cell.1,h2.map,c1⟩
   clear hy
   by_cases hk:y.kind=2
   ·rw[hk]at HIT
    have LW:=Lib.hid hk
    clear hk
    by_cases h0:id=0
    ·have HM:Hid (cO T ls=(1,T)):=by
      have:gL T ls=1:=by
       unfold gL
       rw[Ar.out,←HQ.out,if_neg (by simp),if_neg (by rw[b_ HY.out,LW.out];simp),if_pos h0]
      unfold cO;rw[this]<;>exact rfl
     have hd0:(id==0)=true:=by simpa using h0
     clear h0
     go_enter Tryz.func14,Tryz.ntmps14
     go_wp2_with fail
     (with_reducible refine HF.out.mono ?_)
     rintro e w1 ⟨rfl,hb1⟩
     have HB1:=Lib.hid hb1
     clear hb1
     go_wp2_with fail
     (with_reducible refine(kK.out w1 HB1.out).mono ?_)
     rintro e w2 ⟨rfl,rfl⟩
     obtain⟨c0,hmap,c1⟩:=HIT.out w1 HB1.out
     have iE:=Lib.hid hmap
     clear hmap
     go_wp2_with (first|(at_lookup;refine aW bP rfl _ _ 94 92 rfl Tryz.underlying94 (Tryz.bI _) rfl iE.out id rfl hok ?_;rw[HG.out]))
     go_ret
     rw[HM.out]
     exact Turn.same HH.out HB1.out rfl
    ·have hd0:(id==0)=false:=by simpa using h0
     have zf:=Lib.hid h0
     have Gg:=Lib.hid (fun w2 (hb:Below w.heap.size w w2)=>jm (HH.out.below hb (Nat.le_refl _)) HY.out LW.out)
     have I8:Hid ((bR y).length=y.names.length):=by unfold bR;rw[List.length_map]<;>exact rfl
     clear h0
     by_cases hfull:0<y.names.length
     ·have HM:Hid (cO T ls=(24,T)):=by
       have hnm:bB T id=y.names:=by unfold bB;rw[HY.out]
       have:gL T ls=24:=by
        unfold gL
        rw[Ar.out,←HQ.out,if_neg (by simp),if_neg (by rw[b_ HY.out,LW.out];simp),if_neg zf.out,hnm,if_pos hfull]
       unfold cO;rw[this]<;>exact rfl
      have hd:decide ((0:Int)<(y.names.length:Int))=true:=by simp;omega
      have hd2:decide (0<y.names.length)=true:=by simpa using hfull
      go_enter Tryz.func14,Tryz.ntmps14
      go_wp2_with fail
      (with_reducible refine HF.out.mono ?_)
      rintro e w1 ⟨rfl,hb1⟩
      have HB1:=Lib.hid hb1
      clear hb1
      go_wp2_with fail
      (with_reducible refine(kK.out w1 HB1.out).mono ?_)
      rintro e w2 ⟨rfl,rfl⟩
      obtain⟨c0,hmap,c1⟩:=HIT.out w1 HB1.out
      have iE:=Lib.hid hmap
      clear hmap
      obtain⟨y7,hyn⟩:=Gg.out w1 HB1.out
      have L8:=Lib.hid hyn
      clear hyn
      go_wp2_with (first|(at_lookup;refine aW bP rfl _ _ 94 92 rfl Tryz.underlying94 (Tryz.bI _) rfl iE.out id rfl hok ?_;rw[HG.out])|(at_len;refine iK dx rfl _ 107 3 rfl Tryz.underlying107 rfl L8.out ?_;rw[I8.out]))
      go_ret
      rw[HM.out]
      exact Turn.same HH.out HB1.out rfl
     ·have Yo:Hid (y.names=[]):=by
       have:y.names=[]:=List.eq_nil_of_length_eq_zero (by omega)
       exact this
      have hn0:y.names.length=0:=by omega
      have Yp:=Lib.hid hn0
      have hp:ls≠[]:=fun e=>by
       have h1:id=0:=congrArg Prod.fst (HQ.out.trans (by rw[e]<;>exact(rfl:aF T 0 []=(0,0))))
       exact zf.out h1
      obtain⟨d,x,nm,e1,-,hx,hxk,hn,hmem,-⟩:=bS HQ.out.symm hp
      have yP:=Lib.hid (gP uO.out _ hmem)
      have jw:=Gc yP.out
      have HM:Hid (cO T ls=(0,bH id (aA T d nm))):=by
       have hnm:bB T id=y.names:=by unfold bB;rw[HY.out]
       have:gL T ls=0:=by
        unfold gL
        rw[Ar.out,←HQ.out,if_neg (by simp),if_neg (by rw[b_ HY.out,LW.out];simp),if_neg zf.out,hnm,if_neg (by omega)]
       unfold cO qy;rw[this,←HQ.out,e1]<;>exact rfl
      have ql:=Lib.hid (fun w1 (hb:Below w.heap.size w w1)=>uV a n c ls w1 (HH.out.below hb (Nat.le_refl _)) HT.out (HS.out.below hb (Nat.le_refl _)) hc jd e1)
      have HX:=Lib.hid hx
      have sN:=Lib.hid hxk
      have hdi:id≠d:=fun e=>by subst e;rw[HY.out]at hx;cases hx;rw[Yo.out]at hn;cases hn
      have QA:=Lib.hid hdi
      have ou:=Lib.hid (fun w2 (hb:Below w.heap.size w w2)=>jm (HH.out.below hb (Nat.le_refl _)) hx hxk)
      clear hp e1 hx hxk hn hmem hdi hfull hn0
      go_enter Tryz.func14,Tryz.ntmps14
      go_wp2_with fail
      (with_reducible refine HF.out.mono ?_)
      rintro e w1 ⟨rfl,hb1⟩
      have HB1:=Lib.hid hb1
      clear hb1
      go_wp2_with fail
      (with_reducible refine(kK.out w1 HB1.out).mono ?_)
      rintro e w2 ⟨rfl,rfl⟩
      obtain⟨c0,hmap,c1⟩:=HIT.out w1 HB1.out
      have iE:=Lib.hid hmap
      clear hmap
      obtain⟨y7,hyn⟩:=Gg.out w1 HB1.out
      have L8:=Lib.hid hyn
      clear hyn
      go_wp2_with (first|(at_lookup;refine aW bP rfl _ _ 94 92 rfl Tryz.underlying94 (Tryz.bI _) rfl iE.out id rfl hok ?_;rw[HG.out])|(at_len;refine iK dx rfl _ 107 3 rfl Tryz.underlying107 rfl L8.out ?_;rw[I8.out,Yp.out]))
      (with_reducible refine(ql.out w1 HB1.out).mono ?_)
      rintro e w2 ⟨rfl,hb2⟩
      have HB2:=Lib.hid (HB1.out.trans (hb2.mono HB1.out.size))
      clear hb2
      obtain⟨d7,dY⟩:=ou.out w2 HB2.out
      have rU:=Lib.hid dY
      have HA2:=Lib.hid (HH.out.below HB2.out (Nat.le_refl _))
      clear dY
      have xS:Hid (∀w3,MapAt dx w3 (nb d) (bH nm (bR x))→w2.mapTurned w3 (nb d)→(aK g D w3 p mb ib nb (aA T d nm)∧Keeps (fun b=>g b≠ .none) w2 w3)∧w3.cell? ⟨p,0,none⟩=some (.map (some mb))∧MapAt bP w3 mb (T.map fun q=>(q.1,ptr (ib q.1)))):=fun w3 hM JD=>by
       have h3:=xR HA2.out HX.out sN.out hM JD
       have hm:=h3.1.map
       unfold aA at hm
       rw[rH _ _ _ (fun j=>ptr (ib j))]at hm
       exact⟨h3,h3.1.cell.1,hm⟩
      go_wp2_with (first|(at_delete;refine iX dx rfl _ _ 107 3 rfl Tryz.underlying107 rfl rU.out nm rfl jw ?_;intro w3 Om wD;obtain⟨hA3,hp3,Jc⟩:=xS.out w3 Om wD;have Gd:=Lib.hid hA3;have KX:=Lib.hid Jc;clear hA3 Om wD Jc)|(at_delete;refine iX bP rfl _ _ 94 92 rfl Tryz.underlying94 rfl KX.out id rfl hok ?_;intro w4 Dr rD;have Am:=Lib.hid Dr;have qm:=Lib.hid rD;clear Dr rD))
      go_ret
      rw[HM.out]
      have hA3:=Gd.out
      have hsz:=iJ qm.out
      have Ao:aK g D w4 p mb ib nb (bH id (aA T d nm)):=by
       refine hA3.1.del ?_ (by omega) (fun b hb LB=>dZ qm.out b hb LB)
       unfold aA
       rw[rH _ _ _ (fun j=>ptr (ib j))]
       exact Am.out
      have hgm:=HH.out.iW
      exact Turn.of rfl Ao (((gJ HB2.out).trans hA3.2 (fun _ _ h=>h)).trans ((dN qm.out).mono fun b _ hb=>by rw[show b=mb from hb,hgm];simp) (fun _ _ h=>h))
   ·have hkk:(y.kind==2)=false:=by simpa using hk
    have HM:Hid (cO T ls=(23,T)):=by
     have:gL T ls=23:=by
      unfold gL
      rw[Ar.out,←HQ.out,if_neg (by simp),if_pos (by rw[b_ HY.out];exact hk)]
     unfold cO;rw[this]<;>exact rfl
    go_enter Tryz.func14,Tryz.ntmps14
    go_wp2_with fail
    (with_reducible refine HF.out.mono ?_)
    rintro e w1 ⟨rfl,hb1⟩
    have HB1:=Lib.hid hb1
    clear hb1
    go_wp2_with fail
    (with_reducible refine(kK.out w1 HB1.out).mono ?_)
    rintro e w2 ⟨rfl,rfl⟩
    obtain⟨c0,hmap,c1⟩:=HIT.out w1 HB1.out
    have iE:=Lib.hid hmap
    clear hmap
    go_wp2_with (first|(at_lookup;refine aW bP rfl _ _ 94 92 rfl Tryz.underlying94 (Tryz.bI _) rfl iE.out id rfl hok ?_;rw[HG.out]))
    go_ret
    rw[HM.out]
    exact Turn.same HH.out HB1.out rfl
  ·have hne:(e0==0)=false:=by simpa using he
   have hne2:(e0 !=0)=true:=by simpa using he
   have HM:Hid (cO T ls=(e0,T)):=by
    have:gL T ls=e0:=by
     unfold gL
     rw[Ar.out,if_pos he]
    unfold cO;rw[this,if_neg he];exact rfl
   clear he
   go_enter Tryz.func14,Tryz.ntmps14
   go_wp2_with fail
   (with_reducible refine HF.out.mono ?_)
   rintro e w1 ⟨rfl,hb1⟩
   have HB1:=Lib.hid hb1
   clear hb1
   go_wp2_with fail
   (with_reducible refine(kK.out w1 HB1.out).mono ?_)
   rintro e w2 ⟨rfl,rfl⟩
   go_wp2_with fail
   go_ret
   rw[HM.out]
   exact Turn.same HH.out HB1.out rfl
 ·have HM:Hid (cO T ls=(bO ls,T)):=by
   have:gL T ls=bO ls:=by unfold gL iD;rw[if_pos hf,if_pos hf]
   unfold cO;rw[this,if_neg hf];exact rfl
  have hne:(bO ls==0)=false:=by simpa using hf
  have hne2:(bO ls !=0)=true:=by simpa using hf
  clear hf
  go_enter Tryz.func14,Tryz.ntmps14
  go_wp2_with fail
  (with_reducible refine HF.out.mono ?_)
  rintro e w1 ⟨rfl,hb1⟩
  go_wp2_with fail
  go_ret
  rw[HM.out]
  exact Turn.same HH.out hb1 rfl
end
def maxD (d:Int→Nat) (l:List (Nm×Int)):Nat:=(l.map fun e=>1+d e.2).foldr Nat.max 0
theorem qJ (d:Int→Nat):∀{l:List (Nm×Int)} {e:Nm×Int},e∈l→1+d e.2≤maxD d l
 |x::r,e,h=>by
  have e1:maxD d (x::r)=Nat.max (1+d x.2) (maxD d r):=rfl
  rw[e1]
  rcases List.mem_cons.1 h with rfl|h
  ·exact Nat.le_max_left _ _
  ·exact Nat.le_trans (qJ d h) (Nat.le_max_right _ _)
theorem maxD_le (d:Int→Nat) {m:Nat}:∀{l:List (Nm×Int)},(∀e∈l,1+d e.2≤m)→maxD d l≤m
 |[],_=>Nat.zero_le _
 |x::r,h=>by
  have e1:maxD d (x::r)=Nat.max (1+d x.2) (maxD d r):=rfl
  rw[e1]
  exact Nat.max_le.2 ⟨h x (by simp),maxD_le d fun e he=>h e (by simp[he])⟩
def gy (T:aH):Nat→Int→Nat
 |0,_=>0
 |n+1,id=>maxD (gy T n) (bB T id)
def uW (T:aH):Nat→Int→Prop
 |0,id=>bB T id=[]
 |n+1,id=>∀e∈bB T id,uW T n e.2
theorem uW.le {T:aH}:∀{n:Nat} {id:Int},uW T n id→gy T n id≤n
 |0,_,_=>Nat.le_refl _
 |n+1,id,h=>maxD_le _ fun e he=>by have:=(h e he).le;omega
section
variable {P:Program} {w:World} {ops:Array Oper} {rest:List Oper} {o:Oper} {a:Act} {Q:Exit→Act→World→Prop}
theorem mG (hg:o.guard=none) (m:Operand) (t k e:TypeId) (hop:o.op=Op.range t m) (ht:P.underlying t=some (.map k e)) (hm:a.eval m= .map none)
  (h:wpList P ops Q rest (a.put o.dst (.pointer (some ⟨w.heap.size,0,none⟩))) (w.alloc (.mapIter none 0 #[] 0))):wpList P ops Q (o::rest) a w:=by
 refine wpList_plain hg fun K' hK'=> ?_
 have hrun:(Instr.range t (.map none)).run P w= .ok (.pointer (some ⟨w.heap.size,0,none⟩)) (w.alloc (.mapIter none 0 #[] 0)):=by
  simp[Instr.range,run_underlying ht,Result.andThen]
 unfold Oper.wp
 simp[execOp,hop,hm,hrun,Result.andThen]
 exact hK' _ _ h
theorem nO (hg:o.guard=none) (it:Operand) (hop:o.op=Op.next it false) {r:Nat} (hit:a.eval it= .pointer (some ⟨r,0,none⟩)) (hr:w.heap[r]? =some (.mapIter none 0 #[] 0))
  (h:wpList P ops Q rest (a.put o.dst (.tuple #[.bool false])) w):wpList P ops Q (o::rest) a w:=by
 refine wpList_plain hg fun K' hK'=> ?_
 have hrun:(Instr.next (.pointer (some ⟨r,0,none⟩)) false o.type).run P w= .ok (.tuple #[.bool false]) w:=by
  simp only[Instr.next,getObj,Sem.run_bind,Sem.run,hr,Result.andThen]
  rfl
 unfold Oper.wp
 simp[execOp,hop,hit,hrun,Result.andThen]
 exact hK' _ _ h
end
section
variable {g:Nat→Own} {D:Nat→Prop} {p mb:Nat} {ib nb:Int→Nat} {T:aH}
def pY (p:Nat) (w:World) (id:Int) (n:Nat):Prop:=Calls Tryz.prog 143 #[ptr p, .int .i64 id] w fun e w'=>e= .returned (.int .i64 n)∧Below w.heap.size w w'
def JG (w:World) (d:Int→Nat) (x:bF) (Yq r:Nat) (v:Value) (wr:World):Prop:=
 ∃(m:Nat) (left:Nm→Bool) (cnt:Nat),v= .int .i64 m∧m≤maxD d x.names∧(∀e∈x.names,left e.1=false→1+d e.2≤m)∧eH dx wr Yq r (bR x) left cnt∧Below w.heap.size w wr
set_option maxHeartbeats 1000000 in
theorem wZ (id:Int) (x:bF) (d:Int→Nat) (w:World) (h:aK g D w p mb ib nb T) (hT:dA T) (hx:aj id T=some x) (hd:∀e∈x.names,d e.2≤64)
  (hc:∀e∈x.names,∀w1,Below w.heap.size w w1→pY p w1 e.2 (d e.2)):pY p w id (maxD d x.names):=by
 obtain⟨hc0,hpw,hmw⟩:=h.cell
 have nR:=hT.ids id x hx
 have hok:bP.ok id:=om nR.1 (by omega)
 obtain⟨c0,c1,c2,c3,c4,c5,c7,hiw⟩:=(h.item id x hx).cell
 have hget:aj id (T.map fun q=>(q.1,ptr (ib q.1)))=some (ptr (ib id)):=by rw[dX,hx];rfl
 have HG:=Lib.hid hget
 have iE:=Lib.hid h.map
 have HC:=Lib.hid hc
 have HD:=Lib.hid hd
 have O1:=Lib.hid (hT.each id x hx)
 by_cases hk:x.kind=2
 ·have e2:dJ x (nb id)= .map (some (nb id)):=if_pos hk
  rw[e2]at c7
  have HN:=Lib.hid ((h.item id x hx).names hk)
  have hbw:=HN.out.lt
  clear hget hc hd h hk e2 hT
  unfold pY
  go_enter Tryz.func143,Tryz.ntmps143
  go_wp2_with (first|(at_lookup;refine aW bP rfl _ _ 94 92 rfl Tryz.underlying94 (Tryz.bI _) rfl iE.out id rfl hok ?_;rw[HG.out])|(at_range;refine mX dx rfl _ 107 3 rfl Tryz.underlying107 rfl HN.out ?_;intro w0 hR0 hB0 hs0))
  go_frame
  go_loopw [5,7] (fun v _ wr=>JG w d x (nb id) w.heap.size v wr) (fun _ _ wr=>wr.rangeLeft (nb id) w.heap.size)
  case atStart=>
   refine⟨0,_,_,rfl,Nat.zero_le _,fun e he hl=> ?_,hR0,hB0⟩
   simp only[dP]at hl
   rw[bX uD O1.out.sorted he]at hl
   cases hl
  case round=>
   obtain⟨m,left,cnt,rfl,hm,Oq,hR,hB⟩:=hrel
   have HB:=Lib.hid hB
   have Ot:=Lib.hid Oq
   have HR:=Lib.hid hR
   have hmd:maxD d x.names≤65:=maxD_le d fun e he=>by have:=HD.out e he;omega
   clear Oq hR hB
   go_wp2_with (first|(at_next;refine n_ dx rfl _ rfl rfl HR.out ?_ ?_))
   ·intro hdone
    have xM:=Lib.hid hdone
    clear hdone
    go_wp2
    go_ret
    refine⟨fM ?_,HB.out⟩
    have:maxD d x.names≤m:=maxD_le d fun e he=>Ot.out e he (xM.out _)
    omega
   ·intro k v w3 cnt1 L9 hleft hg2 JH hlt hK1 hs1 hen
    rw[dP]at hg2
    cases hk2:aj k x.names with
    |none=>rw[hk2]at hg2;cases hg2
    |some j=>
     rw[hk2]at hg2
     cases hg2
     have hmem:=cu hk2
     have hB3:Below w.heap.size w w3:=⟨hK1.os.trans HB.out.os,hK1.tape.trans HB.out.tape,hK1.output.trans HB.out.output,by rw[hs1];exact HB.out.size,fun b hb=>(hK1.block b (by have:=HB.out.size;omega) (by omega)).trans (HB.out.block b hb)⟩
     have Ou:=Lib.hid (HC.out _ hmem w3 hB3)
     have hdj:=HD.out _ hmem
     have hjm:=qJ d hmem
     have HB3:=Lib.hid hB3
     have HR1:=Lib.hid JH
     have yU:=Lib.hid hk2
     have Cx:=Lib.hid hlt
     simp only at hdj hjm
     have e1:IntKind.i64.wrap (1+(d j:Int))=1+(d j:Int):=IntWalk.i64_in _ (by omega)
     have hrw:=HR.out.lt
     clear hk2 hmem JH hB3 hlt hK1
     show wpList _ _ _ _ _ _
     have e3:dx.val k= .string (strOf k):=rfl
     rw[e3]at hen⊢
     clear e3
     have RB:=Lib.hid (show Calls Tryz.prog 143 #[ptr p, .int .i64 j] w3 _ from Ou.out)
     go_wp2_with fail
     (with_reducible refine RB.out.mono ?_)
     rintro e w4 ⟨rfl,hb4⟩
     have eG:=Lib.hid hb4
     clear hb4
     go_wp2_with fail
     go_roundw
     case rel=>
      have hs4:=eG.out.size
      refine⟨Nat.max m (1+d j),_,cnt1,?_,Nat.max_le.2 ⟨hm,hjm⟩,fun e he hl=> ?_,HR1.out.kept (eG.out.block _ HR1.out.lt.1) (eG.out.block _ HR1.out.lt.2.1),HB3.out.trans (eG.out.mono HB3.out.size)⟩
      ·congr 1
       show max (m:Int) (1+(d j:Int))=((Nat.max m (1+d j):Nat):Int)
       rcases Nat.le_total m (1+d j)with h0|h0
       ·rw[show Nat.max m (1+d j)=1+d j from Nat.max_eq_right h0];omega
       ·rw[show Nat.max m (1+d j)=m from Nat.max_eq_left h0];omega
      ·by_cases hek:e.1=k
       ·have h1:=bX uD O1.out.sorted he
        rw[hek,yU.out]at h1
        have h2:j=e.2:=Option.some.inj h1
        rw[←h2]
        exact Nat.le_max_right _ _
       ·refine Nat.le_trans (Ot.out e he ?_) (Nat.le_max_left _ _)
        simpa[hek]using hl
     case measure=>
      have h4:eH dx w4 (nb id) w.heap.size (bR x) _ cnt1:=HR1.out.kept (eG.out.block _ HR1.out.lt.1) (eG.out.block _ HR1.out.lt.2.1)
      rw[h4.measure,HR.out.measure]
      exact Cx.out
 ·have e2:dJ x (nb id)= .map none:=if_neg hk
  rw[e2]at c7
  have hnil:x.names=[]:=O1.out.file (O1.out.kind.resolve_right hk)
  have Gh:=Lib.hid hnil
  clear hget hc hd h hk e2 hT hnil
  unfold pY
  rw[Gh.out]
  go_enter Tryz.func143,Tryz.ntmps143
  go_wp2_with (first|(at_lookup;refine aW bP rfl _ _ 94 92 rfl Tryz.underlying94 (Tryz.bI _) rfl iE.out id rfl hok ?_;rw[HG.out])|(at_range;refine mG rfl _ 107 9 3 rfl Tryz.underlying107 rfl ?_))
  go_frame
  go_loopw [5,7] (fun v _ wr=>v= .int .i64 0∧wr=w.alloc (.mapIter none 0 #[] 0)) (fun _ _ wr=>0)
  case atStart=>exact⟨rfl,rfl⟩
  case round=>
   obtain⟨rfl,rfl⟩:=hrel
   go_wp2_with (first|(at_next;refine nO rfl _ rfl rfl (MapKept.heap_alloc w _).1 ?_))
   go_ret
   exact⟨rfl,wall w _⟩
theorem zh (hT:dA T):∀(n:Nat) (id:Int) (w:World),aK g D w p mb ib nb T→(aj id T).isSome=true→uW T n id→n≤64→pY p w id (gy T n id)
 |0,id,w,h,hi,hs,hn=>by
  obtain⟨x,hx⟩:=Option.isSome_iff_exists.1 hi
  have e:x.names=[]:=by have h1:bB T id=[]:=hs;unfold bB at h1;rw[hx]at h1;exact h1
  have:=wZ id x (fun _=>0) w h hT hx (fun _ _=>Nat.zero_le _) (fun y he=>by rw[e]at he;cases he)
  rw[e]at this
  exact this
 |n+1,id,w,h,hi,hs,hn=>by
  obtain⟨x,hx⟩:=Option.isSome_iff_exists.1 hi
  have e:bB T id=x.names:=by unfold bB;rw[hx]
  have hs':∀e∈x.names,uW T n e.2:=fun y hy=>hs y (by rw[e];exact hy)
  have:=wZ id x (gy T n) w h hT hx (fun y hy=>Nat.le_trans (hs' y hy).le (by omega)) (fun y hy w1 hb=>
   zh hT n y.2 w1 (h.below hb (Nat.le_refl _)) (hT.leads id x hx y hy).1 (hs' y hy) (by omega))
  rw[←e]at this
  exact this
end
end Go.Proofs.YtohpcppeajijnaaGreat
