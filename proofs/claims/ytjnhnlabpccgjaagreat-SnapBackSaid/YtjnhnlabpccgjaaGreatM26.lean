/- The reference: Unlink, Rmdir. The reference: Rmdir. The reference: Read. The reference: Keep, Seal. The reference: Seal. The reference: Drop. The reference: deep. The reference: onto. The reference: Rename. -/
import Derived.Test.YtjnhnlabpccgjaaGreatM25
import Derived.Deep.QuietTactic
import Derived.BigQuiet
namespace Go.Proofs.YtjnhnlabpccgjaaGreat
open Go.ChangeShapes Go.WideShapes Go.ChangeAt Go.RowKit
set_option linter.unusedVariables false
set_option linter.unusedSimpArgs false
theorem Keeps.cell_ {r b:Nat} {w w':World} (h:Keeps (fun x=>x=r) w w') (hb:b<w.heap.size) (hn:b≠r) (j:Nat):w'.cell? ⟨b,j,none⟩=w.cell? ⟨b,j,none⟩:=World.cell?_of_block (w:=w) (w':=w') (a:=⟨b,j,none⟩) (h.block b hb hn)
theorem H6 {T:aA} {p:List Nm} (h:(mH T p).2=0):mH T p=aL T 0 p:=by
 unfold mH at h⊢
 by_cases h1:dA p≠0
 ·rw[if_pos h1]at h;exact absurd h h1
 ·rw[if_neg h1]
section
variable {F:Nat→Prop} {r:Nat} {T:aA}
set_option maxRecDepth 100000 in
set_option maxHeartbeats 8000000 in
theorem E5 {S:Nat→Prop} (a:Option Addr) (n c:Nat) (ls:List Nm) (w:World) (h:kW F w r T) (hT:eH T) (hS:bB S w a n (ls.map strOf)) (hc:n≤c) (pO:n≤1000000):
  Calls Tryz.prog 34 #[ptr r, .slice a n c] w (eF F w r (bJ T ls).2 (.int .i64 (bJ T ls).1)):=by
 have hE:(aS T).length≤1000000:=by have:=nG hT;omega
 have H1:=Lib.hid (K5 a n c ls w h hT hE hS)
 have H3:=Lib.hid (fun w1 (hb:Below w.heap.size w w1)=>zN a n c ls w1 (h.below hb (Nat.le_refl _)) hT hE (hS.below hb (Nat.le_refl _)) hc pO)
 have H4:=Lib.hid (fun w1 (hb:Below w.heap.size w w1) id=>vW id w1 (h.below hb (Nat.le_refl _)) hT.tosJ)
 have H5:=Lib.hid (fun w1 (hb:Below w.heap.size w w1) d nm=>pX d nm w1 (h.below hb (Nat.le_refl _)) hE)
 have HH:=Lib.hid h
 have HT:=Lib.hid hT
 have hr0:=h.low r h.own
 by_cases h1:(mH T ls).2=0
 ·have RZ:=H6 h1
  rw[RZ]at h1 H1
  have hl2:aL T 0 ls=((aL T 0 ls).1,0):=Prod.ext rfl h1
  obtain⟨y,hy⟩:=Option.isSome_iff_exists.1 (jZ hT.w ls 0 (iG hT.w) h1)
  have hue:gT T ls=if y.kind=2 then 22 else 0:=by
   unfold gT
   rw[RZ,if_neg (by rw[h1];simp),dD hy]
  obtain⟨id,hid⟩:∃id,id=(aL T 0 ls).1:=⟨_,rfl⟩
  rw[←hid]at hl2 hy
  rw[hl2]at H1
  simp only at H1
  have Us:=Lib.hid (fun w1 hb=>H4.out w1 hb id)
  have hnd:qE T id=mI id y:=by unfold qE;rw[hy]
  rw[hnd]at Us
  unfold mI at Us
  have hlk:=(hT.each id y hy).links
  by_cases h2:y.kind=2
  ·have hk1:(y.kind==2)=true:=by simpa using h2
   have HQ:Hid (bJ T ls=(22,T)):=by
    show bJ T ls=(22,T)
    unfold bJ
    rw[hue,if_pos h2]
    rfl
   clear h hT hS hE H4 RZ h1 hl2 hue hid hnd hy h2
   go_enter Tryz.func34,Tryz.ntmps34
   go_wp2_with fail
   (with_reducible refine H1.out.mono ?_)
   rintro e w1 ⟨rfl,hb1⟩
   have HB1:=Lib.hid hb1
   clear hb1
   go_wp2_with fail
   (with_reducible refine(Us.out w1 HB1.out).mono ?_)
   rintro e w3 ⟨rfl,hb3⟩
   have HB3:=Lib.hid (HB1.out.trans (hb3.mono HB1.out.size))
   have hz3:=HB3.out.size
   clear hb3
   go_wp2_with fail
   go_ret
   exact eF.no HH.out (HB3.out.trans ((wall w3 _).mono HB3.out.size)) HQ.out
  ·have hk1:(y.kind==2)=false:=by simpa using h2
   have hls:ls≠[]:=fun e=>by
    rw[e]at hl2
    simp only[aL,Prod.mk.injEq,and_true]at hl2
    obtain⟨z,hz,Yc⟩:=fu hT.root
    rw[←hl2,hz]at hy
    cases hy
    exact h2 Yc
   obtain⟨d,x,n1,hp1,hp2,hx,hxk,hxn,hm,-⟩:=fZ hl2 hls
   rw[hp1]at H3
   simp only at H3
   have YX:id≠d:=fun e=>by rw[e,hx]at hy;cases hy;exact h2 hxk
   have Df:=Lib.hid ((yA.of hT).cut d n1)
   obtain⟨k,hk,-⟩:=Ju (yA.of hT) hx hxn
   have QJ:=Lib.hid (fun w1 hb=>H5.out w1 hb d n1)
   rw[hk]at QJ
   have YZ:Hid (∀w4,Below w.heap.size w w4→Calls Tryz.prog 85 #[ptr r, .int .i64 k] w4 (eF F w4 r (aJ T d n1) (.tuple #[]))):=fun w4 hb=>by
    obtain⟨k',hk',hc'⟩:=RX d n1 id x w4 (h.below hb (Nat.le_refl _)) (yA.of hT) hx hxn
    rw[hk]at hk'
    have:k=k':=by omega
    rw[this]
    exact hc'
   have Rt:Hid (aj id (aJ T d n1)=some y):=by
    show aj id (aJ T d n1)=some y
    unfold aJ
    rw[bg,if_neg YX]
    exact hy
   have Va:Hid (aj id (aX id (fun x:bq=>{x with links:=x.links+ -1}) (aJ T d n1))=some {y with links:=y.links+ -1}):=by
    show aj id (aX id (fun x:bq=>{x with links:=x.links+ -1}) (aJ T d n1))=some {y with links:=y.links+ -1}
    rw[bg,if_pos rfl,Rt.out]
    rfl
   have HL2:Hid (yA (aX id (fun x:bq=>{x with links:=x.links+ -1}) (aJ T d n1))):=Df.out.aX id (fun _=>by exact rfl)
   have hnil:y.names=[]:=(hT.each id y hy).file ((hT.each id y hy).kind.resolve_right h2)
   have HQ:Hid (bJ T ls=(0,if y.links=1∧y.closed=true then bF id (aX id (fun x:bq=>{x with links:=x.links+ -1}) (aJ T d n1))else aX id (fun x:bq=>{x with links:=x.links+ -1}) (aJ T d n1))):=by
    show bJ T ls=_
    unfold bJ
    rw[hue,if_neg h2]
    refine Prod.ext rfl ?_
    show oK T ls=_
    unfold oK fG
    rw[hp1,←hid]
    have e0:(fun x:bq=>{x with links:=x.links-1})=fun x:bq=>{x with links:=x.links+ -1}:=rfl
    simp only[e0]
    rw[Va.out]
    simp only
    by_cases hq:y.links=1∧y.closed=true
    ·rw[if_pos hq,if_pos ⟨by omega,hq.2⟩]
    ·rw[if_neg hq,if_neg (fun h=>hq ⟨by omega,h.2⟩)]
   clear h hT hS hE H4 H5 RZ h1 hl2 hue hid hnd hy h2 hls hp1 hp2 hx hxk hxn hm hk YX
   by_cases h3:y.links=1
   ·have e1:(y.links==1)=true:=by simpa using h3
    cases h4:y.closed with
    |true=>
     rw[if_pos ⟨h3,h4⟩]at HQ
     rw[h4]at Us
     have hcl:=Lib.hid h4
     clear h3 h4
     go_enter Tryz.func34,Tryz.ntmps34
     go_wp2_with fail
     (with_reducible refine H1.out.mono ?_)
     rintro e w1 ⟨rfl,hb1⟩
     have HB1:=Lib.hid hb1
     clear hb1
     go_wp2_with fail
     (with_reducible refine(Us.out w1 HB1.out).mono ?_)
     rintro e w3 ⟨rfl,hb3⟩
     have HB3:=Lib.hid (HB1.out.trans (hb3.mono HB1.out.size))
     have hz3:=HB3.out.size
     clear hb3
     go_wp2_with fail
     (with_reducible refine(H3.out _ (HB3.out.trans ((wall w3 _).mono HB3.out.size))).mono ?_)
     rintro e w4 ⟨rfl,hb4⟩
     have kG:=Lib.hid ((HB3.out.trans ((wall w3 _).mono HB3.out.size)).trans (hb4.mono (by simp;omega)))
     have q4:w4.cell? ⟨w3.heap.size,2,none⟩=some (.int .i64 y.links):=by rw[hb4.cell (p:=⟨w3.heap.size,2,none⟩) (by simp)];exact o_ w3 _ _ 2
     have q5:w4.cell? ⟨w3.heap.size,5,none⟩=some (.bool true):=by rw[hb4.cell (p:=⟨w3.heap.size,5,none⟩) (by simp)];exact(o_ w3 _ _ 5)
     have OV:w3.heap.size<w4.heap.size:=by have:=hb4.size;simp at this;omega
     obtain⟨qb,KC⟩:∃qb,qb=w3.heap.size:=⟨_,rfl⟩
     have hqr:qb≠r:=by omega
     rw[←KC]at q4 q5 OV⊢
     have HZ:=Lib.hid KC
     clear hb4 KC hz3
     go_wp2_with fail
     (with_reducible refine(QJ.out w4 kG.out).mono ?_)
     rintro e w5 ⟨rfl,rfl⟩
     go_wp2_with fail
     (with_reducible refine(YZ.out w4 kG.out).mono ?_)
     rintro e w5 Y0
     obtain⟨rfl,vL,OW⟩:=Y0
     have Ut:w5.cell? ⟨qb,2,none⟩=some (.int .i64 y.links):=(vL.cell_ OV hqr 2).trans q4
     have Uu:w5.cell? ⟨qb,5,none⟩=some (.bool true):=(vL.cell_ OV hqr 5).trans q5
     have F7:qb<w5.heap.size:=by have:=vL.size;omega
     have Y1:=Lib.hid (wh id (-1) y w5 OW Df.out Rt.out (by omega) hlk)
     have AO:Hid (eF F w4 r (aJ T d n1) (.tuple #[]) (.returned (.tuple #[])) w5):=⟨rfl,vL,OW⟩
     clear vL OW q4 q5
     go_wp2_with fail
     (with_reducible refine Y1.out.mono ?_)
     rintro e w6 Y2
     obtain⟨rfl,zo,MN⟩:=Y2
     have q4:w6.cell? ⟨qb,2,none⟩=some (.int .i64 y.links):=(zo.cell_ F7 hqr 2).trans Ut
     have q5:w6.cell? ⟨qb,5,none⟩=some (.bool true):=(zo.cell_ F7 hqr 5).trans Uu
     have hz6:qb<w6.heap.size:=by have:=zo.size;omega
     have F8:=Lib.hid (uP id _ w6 MN HL2.out.sorted HL2.out.len Va.out hnil)
     have F3:Hid (eF (Grow F w4 w5) w5 r (aX id (fun x=>{x with links:=x.links+ -1}) (aJ T d n1)) (.tuple #[]) (.returned (.tuple #[])) w6):=⟨rfl,zo,MN⟩
     clear zo MN Ut Uu
     go_wp2_with fail
     (with_reducible refine F8.out.mono ?_)
     rintro e w7 VF
     have Y3:=Lib.hid VF
     obtain rfl:=VF.1
     clear VF
     go_wp2_with fail
     go_ret
     rw[HQ.out]
     have ht56:=AO.out.trans (HH.out.below kG.out (Nat.le_refl _)).low F3.out
     exact(dM.behind HH.out.low kG.out (AO.out.trans (HH.out.below kG.out (Nat.le_refl _)).low (F3.out.trans AO.out.2.2.low Y3.out))).val _
    |false=>
     rw[if_neg (by rw[h4];simp)]at HQ
     rw[h4]at Us
     clear h3 h4
     go_enter Tryz.func34,Tryz.ntmps34
     go_wp2_with fail
     (with_reducible refine H1.out.mono ?_)
     rintro e w1 ⟨rfl,hb1⟩
     have HB1:=Lib.hid hb1
     clear hb1
     go_wp2_with fail
     (with_reducible refine(Us.out w1 HB1.out).mono ?_)
     rintro e w3 ⟨rfl,hb3⟩
     have HB3:=Lib.hid (HB1.out.trans (hb3.mono HB1.out.size))
     have hz3:=HB3.out.size
     clear hb3
     go_wp2_with fail
     (with_reducible refine(H3.out _ (HB3.out.trans ((wall w3 _).mono HB3.out.size))).mono ?_)
     rintro e w4 ⟨rfl,hb4⟩
     have kG:=Lib.hid ((HB3.out.trans ((wall w3 _).mono HB3.out.size)).trans (hb4.mono (by simp;omega)))
     have q4:w4.cell? ⟨w3.heap.size,2,none⟩=some (.int .i64 y.links):=by rw[hb4.cell (p:=⟨w3.heap.size,2,none⟩) (by simp)];exact o_ w3 _ _ 2
     have q5:w4.cell? ⟨w3.heap.size,5,none⟩=some (.bool false):=by rw[hb4.cell (p:=⟨w3.heap.size,5,none⟩) (by simp)];exact o_ w3 _ _ 5
     have OV:w3.heap.size<w4.heap.size:=by have:=hb4.size;simp at this;omega
     obtain⟨qb,KC⟩:∃qb,qb=w3.heap.size:=⟨_,rfl⟩
     have hqr:qb≠r:=by omega
     rw[←KC]at q4 q5 OV⊢
     have HZ:=Lib.hid KC
     clear hb4 KC hz3
     go_wp2_with fail
     (with_reducible refine(QJ.out w4 kG.out).mono ?_)
     rintro e w5 ⟨rfl,rfl⟩
     go_wp2_with fail
     (with_reducible refine(YZ.out w4 kG.out).mono ?_)
     rintro e w5 Y0
     obtain⟨rfl,vL,OW⟩:=Y0
     have Ut:w5.cell? ⟨qb,2,none⟩=some (.int .i64 y.links):=(vL.cell_ OV hqr 2).trans q4
     have Uu:w5.cell? ⟨qb,5,none⟩=some (.bool false):=(vL.cell_ OV hqr 5).trans q5
     have F7:qb<w5.heap.size:=by have:=vL.size;omega
     have Y1:=Lib.hid (wh id (-1) y w5 OW Df.out Rt.out (by omega) hlk)
     have AO:Hid (eF F w4 r (aJ T d n1) (.tuple #[]) (.returned (.tuple #[])) w5):=⟨rfl,vL,OW⟩
     clear vL OW q4 q5
     go_wp2_with fail
     (with_reducible refine Y1.out.mono ?_)
     rintro e w6 Y2
     obtain⟨rfl,zo,MN⟩:=Y2
     have q4:w6.cell? ⟨qb,2,none⟩=some (.int .i64 y.links):=(zo.cell_ F7 hqr 2).trans Ut
     have q5:w6.cell? ⟨qb,5,none⟩=some (.bool false):=(zo.cell_ F7 hqr 5).trans Uu
     have hz6:qb<w6.heap.size:=by have:=zo.size;omega
     have F3:Hid (eF (Grow F w4 w5) w5 r (aX id (fun x=>{x with links:=x.links+ -1}) (aJ T d n1)) (.tuple #[]) (.returned (.tuple #[])) w6):=⟨rfl,zo,MN⟩
     clear zo MN Ut Uu
     go_wp2_with fail
     go_ret
     rw[HQ.out]
     exact(dM.behind HH.out.low kG.out (AO.out.trans (HH.out.below kG.out (Nat.le_refl _)).low F3.out)).val _
   ·have e1:(y.links==1)=false:=by simpa using h3
    rw[if_neg (fun h=>h3 h.1)]at HQ
    clear h3
    go_enter Tryz.func34,Tryz.ntmps34
    go_wp2_with fail
    (with_reducible refine H1.out.mono ?_)
    rintro e w1 ⟨rfl,hb1⟩
    have HB1:=Lib.hid hb1
    clear hb1
    go_wp2_with fail
    (with_reducible refine(Us.out w1 HB1.out).mono ?_)
    rintro e w3 ⟨rfl,hb3⟩
    have HB3:=Lib.hid (HB1.out.trans (hb3.mono HB1.out.size))
    have hz3:=HB3.out.size
    clear hb3
    go_wp2_with fail
    (with_reducible refine(H3.out _ (HB3.out.trans ((wall w3 _).mono HB3.out.size))).mono ?_)
    rintro e w4 ⟨rfl,hb4⟩
    have kG:=Lib.hid ((HB3.out.trans ((wall w3 _).mono HB3.out.size)).trans (hb4.mono (by simp;omega)))
    have q4:w4.cell? ⟨w3.heap.size,2,none⟩=some (.int .i64 y.links):=by rw[hb4.cell (p:=⟨w3.heap.size,2,none⟩) (by simp)];exact o_ w3 _ _ 2
    have q5:w4.cell? ⟨w3.heap.size,5,none⟩=some (.bool y.closed):=by rw[hb4.cell (p:=⟨w3.heap.size,5,none⟩) (by simp)];exact o_ w3 _ _ 5
    have OV:w3.heap.size<w4.heap.size:=by have:=hb4.size;simp at this;omega
    obtain⟨qb,KC⟩:∃qb,qb=w3.heap.size:=⟨_,rfl⟩
    have hqr:qb≠r:=by omega
    rw[←KC]at q4 q5 OV⊢
    have HZ:=Lib.hid KC
    clear hb4 KC hz3
    go_wp2_with fail
    (with_reducible refine(QJ.out w4 kG.out).mono ?_)
    rintro e w5 ⟨rfl,rfl⟩
    go_wp2_with fail
    (with_reducible refine(YZ.out w4 kG.out).mono ?_)
    rintro e w5 Y0
    obtain⟨rfl,vL,OW⟩:=Y0
    have Ut:w5.cell? ⟨qb,2,none⟩=some (.int .i64 y.links):=(vL.cell_ OV hqr 2).trans q4
    have Uu:w5.cell? ⟨qb,5,none⟩=some (.bool y.closed):=(vL.cell_ OV hqr 5).trans q5
    have F7:qb<w5.heap.size:=by have:=vL.size;omega
    have Y1:=Lib.hid (wh id (-1) y w5 OW Df.out Rt.out (by omega) hlk)
    have AO:Hid (eF F w4 r (aJ T d n1) (.tuple #[]) (.returned (.tuple #[])) w5):=⟨rfl,vL,OW⟩
    clear vL OW q4 q5
    go_wp2_with fail
    (with_reducible refine Y1.out.mono ?_)
    rintro e w6 Y2
    obtain⟨rfl,zo,MN⟩:=Y2
    have q4:w6.cell? ⟨qb,2,none⟩=some (.int .i64 y.links):=(zo.cell_ F7 hqr 2).trans Ut
    have q5:w6.cell? ⟨qb,5,none⟩=some (.bool y.closed):=(zo.cell_ F7 hqr 5).trans Uu
    have hz6:qb<w6.heap.size:=by have:=zo.size;omega
    have F3:Hid (eF (Grow F w4 w5) w5 r (aX id (fun x=>{x with links:=x.links+ -1}) (aJ T d n1)) (.tuple #[]) (.returned (.tuple #[])) w6):=⟨rfl,zo,MN⟩
    clear zo MN Ut Uu
    go_wp2_with fail
    go_ret
    rw[HQ.out]
    exact(dM.behind HH.out.low kG.out (AO.out.trans (HH.out.below kG.out (Nat.le_refl _)).low F3.out)).val _
 ·have HQ:Hid (bJ T ls=((mH T ls).2,T)):=by
   show bJ T ls=_
   have he:gT T ls=(mH T ls).2:=by unfold gT;rw[if_pos h1]
   unfold bJ
   rw[he,if_neg h1]
  generalize mH T ls=lk at*
  obtain⟨id,e1⟩:=lk
  simp only at h1 H1 HQ
  have hne:(e1==0)=false:=by simpa using h1
  have hne2:(e1 !=0)=true:=by simpa using h1
  clear h hT hS hE h1
  go_enter Tryz.func34,Tryz.ntmps34
  go_wp2_with fail
  (with_reducible refine H1.out.mono ?_)
  rintro e w1 ⟨rfl,hb1⟩
  have HB1:=Lib.hid hb1
  clear hb1
  go_wp2_with fail
  go_ret
  exact eF.no HH.out HB1.out HQ.out
end
section
variable {F:Nat→Prop} {r:Nat} {T:aA}
end
section
variable {F:Nat→Prop} {r:Nat} {T:aA}
end
theorem wm {T:aA} {id aP v:Int} (h:qB T id aP=v) (hv:v≠0):fC T id aP=(v,T):=by
 unfold fC
 rw[h,if_neg hv]
section
variable {F:Nat→Prop} {r:Nat} {T:aA}
end
section
variable {F:Nat→Prop} {r:Nat} {T:aA}
set_option maxRecDepth 100000 in
set_option maxHeartbeats 8000000 in
theorem K_ (id aP:Int) (w:World) (h:kW F w r T) (hT:eH T) (ht0:0≤aP∧aP≤18446744073709551615):
  Calls Tryz.prog 32 #[ptr r, .int .i64 id, .int .u64 aP] w (eF F w r (fC T id aP).2 (.int .i64 (fC T id aP).1)):=by
 have HF:=Lib.hid (vX id w h hT.tosJ)
 have hr0:=h.low r h.own
 have HH:=Lib.hid h
 by_cases h0:dG T id=0
 ·obtain⟨x,hx,hk⟩:∃x,aj id T=some x∧x.kind≠2:=by
   unfold dG at h0
   cases hx:aj id T with
   |none=>rw[hx]at h0;cases h0
   |some x=>
    rw[hx]at h0
    exact⟨x,rfl,fun hk=>by simp[hk]at h0⟩
  obtain⟨k,hi,hq⟩:=lU hT.sorted hx
  have hrf:K6 T id=k:=by unfold K6;rw[if_pos h0];exact hi
  rw[hrf,h0]at HF
  obtain⟨bN,oN,cN,hc0,hO,hbw,hkl,c0,c1,c2,c3,c4,c5⟩:=h.node hq
  simp only at c0 c1 c2 c3 c4 c5
  have i0:(0:Int)≤k:=by omega
  have hlen:=hT.len
  have F9:=Lib.hid hq
  have HS:=Lib.hid hT.sorted
  obtain⟨i6,a6,b6,s6,d6⟩:=info_parts nodeInfo
  have jK:=Lib.hid (And.intro a6 (And.intro b6 (And.intro s6 d6)))
  obtain⟨aN,cN',aD,cD,aE,cE,h1,h2,h3,h4,h8,h9,h10,h11⟩:=h.head
  obtain⟨p0,p1,p2,pf⟩:=h_ h1
  rw[p0]at hc0
  simp only[Option.some.injEq,Value.slice.injEq,true_and]at hc0
  obtain⟨rfl,rfl⟩:=hc0
  have xZ:=Lib.hid h1
  have K9:=Lib.hid h8
  obtain⟨n,hn⟩:∃n,n=T.length:=⟨_,rfl⟩
  rw[←hn]at p0 hlen hkl h2 K9
  have iM:=Lib.hid hn
  have hf0:=pf 0
  have hfp:=hO.2
  have i1:(k:Int)<n:=by omega
  have hrw:=hr0
  have rD:=Lib.hid (hT.each id x hx)
  have HX:=Lib.hid hx
  have hkx:=hk
  clear a6 b6 s6 d6 h1 h8 h9 h10 h11 hi hrf h hq hn p1 p2 pf hO hT h0
  have he:qB T id aP=if x.closed then 27 else if 1099511627776<aP then 1 else 0:=by
   unfold qB
   rw[hx]
   simp only[if_neg hk]
  clear hx hk
  cases hcl:x.closed with
  |true=>
   rw[hcl]at c5
   have HQ:=Lib.hid (wm (he.trans (if_pos hcl)) (by omega))
   clear hcl he
   go_enter Tryz.func32,Tryz.ntmps32
   go_wp2_with fail
   (with_reducible refine HF.out.mono ?_)
   rintro e w1 ⟨rfl,rfl⟩
   go_wp2_with fail
   go_ret
   exact eF.no HH.out (Below.refl _ _) HQ.out
  |false=>
   rw[hcl]at c5
   rw[if_neg (by rw[hcl];decide)]at he
   by_cases h6:1099511627776<aP
   ·have HQ:=Lib.hid (wm (he.trans (if_pos h6)) (by omega))
    have hd6:decide ((1099511627776:Int)<aP)=true:=by simpa using h6
    clear hcl he
    go_enter Tryz.func32,Tryz.ntmps32
    go_wp2_with fail
    (with_reducible refine HF.out.mono ?_)
    rintro e w1 ⟨rfl,rfl⟩
    go_wp2_with fail
    go_ret
    exact eF.no HH.out (Below.refl _ _) HQ.out
   ·have hd6:decide ((1099511627776:Int)<aP)=false:=by simpa using h6
    have HQ:Hid (fC T id aP=(0,if x.links=0 then bF id (aX id (fun x:bq=>{x with closed:=true,aP:=aP}) T)else(aX id (fun x:bq=>{x with closed:=true,aP:=aP}) T))):=by
     show fC T id aP=_
     unfold fC fG
     rw[he,if_neg h6]
     refine Prod.ext rfl ?_
     show(match aj id (aX id (fun x:bq=>{x with closed:=true,aP:=aP}) T)with|none=>(aX id (fun x:bq=>{x with closed:=true,aP:=aP}) T)|some x=>if x.links=0∧x.closed=true then bF id (aX id (fun x:bq=>{x with closed:=true,aP:=aP}) T)else(aX id (fun x:bq=>{x with closed:=true,aP:=aP}) T))=_
     rw[bg,if_pos rfl,HX.out]
     simp only[Option.map_some,and_true]
    clear hcl he
    by_cases h9:x.links=0
    ·rw[if_pos h9]at HQ
     have e9:(x.links==0)=true:=by simpa using h9
     clear h9
     go_enter Tryz.func32,Tryz.ntmps32
     go_wp2_with fail
     (with_reducible refine HF.out.mono ?_)
     rintro e w1 ⟨rfl,rfl⟩
     go_upto_region 8 with(fail)
     go_cut [] (fun wx=>bQ w r (.slice aD (List.map (fun q:Int×bq=>q.2.b) T).length cD) (.slice aE (aS T).length cE) T wx)
     case first=>
      go_wp2_with ((at_builtin;refine gB rfl _ _ 94 rfl w.heap.size 101 _ _ 6 48 Tryz.underlying94 jK.out.1 jK.out.2.1 jK.out.2.2.1 jK.out.2.2.2 rfl (by omega) _ 0 [] rfl (eY (MapKept.heap_alloc w _).1 (Nat.le_refl _)) _ n _ (T.flatMap b_) rfl (K9.out.below ((Below.refl _ _).alloc (Nat.le_refl _) _) (Nat.le_refl _)) (gu _) (by unfold maxLen;omega) (by omega) (by simp) ?_;intro A1 c1' w1 hown1 hb1;have hB1:=((Below.refl w.heap.size w).alloc (Nat.le_refl _) _).trans hb1;have hf1:w1.frozen? ⟨r,0,none⟩=false:=(hB1.frozen (p:=⟨r,0,none⟩) hrw).trans hf0;have VG:=(hB1.cell (p:=⟨r,0,none⟩) hrw).trans p0))
      go_meet
      obtain⟨-,hcc,-,hrow2⟩:=og (w:=w) hown1 (by unfold maxLen;omega) (Nat.le_refl _)
      have hn:=iM.out
      rw[List.nil_append,Nat.zero_add,hn]at hrow2
      rw[Nat.zero_add,hn]at hcc
      have:=bQ.XJ hrw xZ.out hB1 hcc hrow2 (lH hown1)
      rw[←hn]at this
      exact this
     case rest=>
      obtain⟨w1,rfl⟩:∃w1:World,w1=wc:=⟨_,rfl⟩
      obtain⟨g,off,c,q0,-,-,hlc,qf,hgr,hg1,hg2,hr1,gf,d0,d1,d2,d3,d4,d5⟩:=hcut.facts F9.out
      rw[←iM.out]at q0
      have QB:=gf (off+k*6+5)
      have HM:=Lib.hid hcut
      have w_:=Lib.hid q0
      clear hcut qf gf hlc
      go_upto_region 9 with(fail)
      go_cut [] (fun wx=>bQ w r (.slice aD (List.map (fun q:Int×bq=>q.2.b) T).length cD) (.slice aE (aS T).length cE) (T.set k (id,({x with closed:=true}:bq))) wx)
      case first=>
       go_wp2_with fail
       go_meet
       have h0:=w_.out
       rw[iM.out]at h0
       have:=bQ.fq HM.out (by rw[←iM.out]at h0⊢;exact h0) (k:=k) (j:=5) (q':=(id,{x with closed:=true})) (v:= .bool true) F9.out (by omega) rfl
       rw[←Nat.add_assoc]at this
       exact this
      case rest=>
       clear q0 d0 d1 d2 d3 d4 d5 QB hgr hg1 hg2 hr1
       obtain⟨w2,rfl⟩:∃w2:World,w2=wc:=⟨_,rfl⟩
       have hset:(T.set k (id,({x with closed:=true}:bq)))[k]? =some (id,({x with closed:=true}:bq)):=by
        have hk1:k<T.length:=by have:=iM.out;omega
        rw[List.getElem?_set_self hk1]
       have Y4:=Lib.hid hset
       have MS:Hid (n=(T.set k (id,({x with closed:=true}:bq))).length):=by
        show n=_
        rw[List.length_set];exact iM.out
       clear hset
       obtain⟨g2,off2,c2z,q0,-,-,hlc,qf,hgr,hg1,hg2,hr1,gf,d0,d1,d2,d3,d4,d5⟩:=hcut.facts Y4.out
       rw[←MS.out]at q0
       have QB:=gf (off2+k*6+4)
       have wQ:=Lib.hid hcut
       have DY:=Lib.hid q0
       clear hcut qf gf hlc
       go_upto_region 10 with(fail)
       go_cut [] (fun wx=>eF F w r (aX id (fun x:bq=>{x with closed:=true,aP:=aP}) T) (.tuple #[]) (.returned (.tuple #[])) wx)
       case first=>
        go_wp2_with fail
        go_meet
        have h0:=DY.out
        rw[MS.out]at h0
        have:=bQ.fq wQ.out (by rw[←MS.out]at h0⊢;exact h0) (k:=k) (j:=4) (q':=(id,{x with closed:=true,aP:=aP})) (v:= .int .u64 aP) Y4.out (by omega) rfl
        rw[←Nat.add_assoc]at this
        rw[List.set_set]at this
        have h7:=fJ.tN HH.out xZ.out this (.tuple #[])
        have h8:=n_ (f:=fun x:bq=>{x with closed:=true,aP:=aP}) HS.out F9.out
        simp only at h8
        rw[h8]at h7
        refine⟨h7.1,h7.2.1,?_⟩
        rw[oW (fun _=>by exact rfl),mV (fun _=>by exact rfl)]
        exact h7.2.2
       case rest=>
        clear q0 d0 d1 d2 d3 d4 d5 QB hgr hg1 hg2 hr1
        obtain⟨w3,rfl⟩:∃w3:World,w3=wc:=⟨_,rfl⟩
        have HT3:=Lib.hid hcut
        have tO:=hcut.2.2
        have hr3:r<w3.heap.size:=tO.low r tO.own
        have hset:(aX id (fun x:bq=>{x with closed:=true,aP:=aP}) T)[k]? =some (id,({x with closed:=true,aP:=aP}:bq)):=by
         have h8:=n_ (f:=fun x:bq=>{x with closed:=true,aP:=aP}) HS.out F9.out
         simp only at h8
         have hk1:k<T.length:=by have:=iM.out;omega
         rw[←h8,List.getElem?_set_self hk1]
        obtain⟨bG,oG,cG,e0,hOG,hbG,hkG,-,-,e2,-,-,-⟩:=tO.node hset
        simp only at e2
        rw[fV,←iM.out]at e0
        have VH:Hid (aj id (aX id (fun x:bq=>{x with closed:=true,aP:=aP}) T)=some ({x with closed:=true,aP:=aP}:bq)):=by
         show aj id (aX id (fun x:bq=>{x with closed:=true,aP:=aP}) T)=_
         rw[bg,if_pos rfl,HX.out]
         rfl
        have HSL:Hid (aC fQ (aX id (fun x:bq=>{x with closed:=true,aP:=aP}) T)∧(aX id (fun x:bq=>{x with closed:=true,aP:=aP}) T).length≤64):=by
         refine⟨jX _ _ HS.out,?_⟩
         rw[fV,←iM.out]
         exact hlen
        have F8:=Lib.hid (uP id _ w3 tO HSL.out.1 HSL.out.2 VH.out (rD.out.file (rD.out.kind.resolve_right hkx)))
        clear hcut tO hset hOG hkG
        go_wp2_with fail
        (with_reducible refine F8.out.mono ?_)
        rintro e w4 Jw
        have yP:=Lib.hid Jw
        obtain rfl:=Jw.1
        clear Jw
        go_wp2_with fail
        go_ret
        rw[HQ.out]
        exact(HT3.out.trans HH.out.low yP.out).val _
    ·rw[if_neg h9]at HQ
     have e9:(x.links==0)=false:=by simpa using h9
     clear h9
     go_enter Tryz.func32,Tryz.ntmps32
     go_wp2_with fail
     (with_reducible refine HF.out.mono ?_)
     rintro e w1 ⟨rfl,rfl⟩
     go_upto_region 8 with(fail)
     go_cut [] (fun wx=>bQ w r (.slice aD (List.map (fun q:Int×bq=>q.2.b) T).length cD) (.slice aE (aS T).length cE) T wx)
     case first=>
      go_wp2_with ((at_builtin;refine gB rfl _ _ 94 rfl w.heap.size 101 _ _ 6 48 Tryz.underlying94 jK.out.1 jK.out.2.1 jK.out.2.2.1 jK.out.2.2.2 rfl (by omega) _ 0 [] rfl (eY (MapKept.heap_alloc w _).1 (Nat.le_refl _)) _ n _ (T.flatMap b_) rfl (K9.out.below ((Below.refl _ _).alloc (Nat.le_refl _) _) (Nat.le_refl _)) (gu _) (by unfold maxLen;omega) (by omega) (by simp) ?_;intro A1 c1' w1 hown1 hb1;have hB1:=((Below.refl w.heap.size w).alloc (Nat.le_refl _) _).trans hb1;have hf1:w1.frozen? ⟨r,0,none⟩=false:=(hB1.frozen (p:=⟨r,0,none⟩) hrw).trans hf0;have VG:=(hB1.cell (p:=⟨r,0,none⟩) hrw).trans p0))
      go_meet
      obtain⟨-,hcc,-,hrow2⟩:=og (w:=w) hown1 (by unfold maxLen;omega) (Nat.le_refl _)
      have hn:=iM.out
      rw[List.nil_append,Nat.zero_add,hn]at hrow2
      rw[Nat.zero_add,hn]at hcc
      have:=bQ.XJ hrw xZ.out hB1 hcc hrow2 (lH hown1)
      rw[←hn]at this
      exact this
     case rest=>
      obtain⟨w1,rfl⟩:∃w1:World,w1=wc:=⟨_,rfl⟩
      obtain⟨g,off,c,q0,-,-,hlc,qf,hgr,hg1,hg2,hr1,gf,d0,d1,d2,d3,d4,d5⟩:=hcut.facts F9.out
      rw[←iM.out]at q0
      have QB:=gf (off+k*6+5)
      have HM:=Lib.hid hcut
      have w_:=Lib.hid q0
      clear hcut qf gf hlc
      go_upto_region 9 with(fail)
      go_cut [] (fun wx=>bQ w r (.slice aD (List.map (fun q:Int×bq=>q.2.b) T).length cD) (.slice aE (aS T).length cE) (T.set k (id,({x with closed:=true}:bq))) wx)
      case first=>
       go_wp2_with fail
       go_meet
       have h0:=w_.out
       rw[iM.out]at h0
       have:=bQ.fq HM.out (by rw[←iM.out]at h0⊢;exact h0) (k:=k) (j:=5) (q':=(id,{x with closed:=true})) (v:= .bool true) F9.out (by omega) rfl
       rw[←Nat.add_assoc]at this
       exact this
      case rest=>
       clear q0 d0 d1 d2 d3 d4 d5 QB hgr hg1 hg2 hr1
       obtain⟨w2,rfl⟩:∃w2:World,w2=wc:=⟨_,rfl⟩
       have hset:(T.set k (id,({x with closed:=true}:bq)))[k]? =some (id,({x with closed:=true}:bq)):=by
        have hk1:k<T.length:=by have:=iM.out;omega
        rw[List.getElem?_set_self hk1]
       have Y4:=Lib.hid hset
       have MS:Hid (n=(T.set k (id,({x with closed:=true}:bq))).length):=by
        show n=_
        rw[List.length_set];exact iM.out
       clear hset
       obtain⟨g2,off2,c2z,q0,-,-,hlc,qf,hgr,hg1,hg2,hr1,gf,d0,d1,d2,d3,d4,d5⟩:=hcut.facts Y4.out
       rw[←MS.out]at q0
       have QB:=gf (off2+k*6+4)
       have wQ:=Lib.hid hcut
       have DY:=Lib.hid q0
       clear hcut qf gf hlc
       go_upto_region 10 with(fail)
       go_cut [] (fun wx=>eF F w r (aX id (fun x:bq=>{x with closed:=true,aP:=aP}) T) (.tuple #[]) (.returned (.tuple #[])) wx)
       case first=>
        go_wp2_with fail
        go_meet
        have h0:=DY.out
        rw[MS.out]at h0
        have:=bQ.fq wQ.out (by rw[←MS.out]at h0⊢;exact h0) (k:=k) (j:=4) (q':=(id,{x with closed:=true,aP:=aP})) (v:= .int .u64 aP) Y4.out (by omega) rfl
        rw[←Nat.add_assoc]at this
        rw[List.set_set]at this
        have h7:=fJ.tN HH.out xZ.out this (.tuple #[])
        have h8:=n_ (f:=fun x:bq=>{x with closed:=true,aP:=aP}) HS.out F9.out
        simp only at h8
        rw[h8]at h7
        refine⟨h7.1,h7.2.1,?_⟩
        rw[oW (fun _=>by exact rfl),mV (fun _=>by exact rfl)]
        exact h7.2.2
       case rest=>
        clear q0 d0 d1 d2 d3 d4 d5 QB hgr hg1 hg2 hr1
        obtain⟨w3,rfl⟩:∃w3:World,w3=wc:=⟨_,rfl⟩
        have HT3:=Lib.hid hcut
        have tO:=hcut.2.2
        have hr3:r<w3.heap.size:=tO.low r tO.own
        have hset:(aX id (fun x:bq=>{x with closed:=true,aP:=aP}) T)[k]? =some (id,({x with closed:=true,aP:=aP}:bq)):=by
         have h8:=n_ (f:=fun x:bq=>{x with closed:=true,aP:=aP}) HS.out F9.out
         simp only at h8
         have hk1:k<T.length:=by have:=iM.out;omega
         rw[←h8,List.getElem?_set_self hk1]
        obtain⟨bG,oG,cG,e0,hOG,hbG,hkG,-,-,e2,-,-,-⟩:=tO.node hset
        simp only at e2
        rw[fV,←iM.out]at e0
        have VH:Hid (aj id (aX id (fun x:bq=>{x with closed:=true,aP:=aP}) T)=some ({x with closed:=true,aP:=aP}:bq)):=by
         show aj id (aX id (fun x:bq=>{x with closed:=true,aP:=aP}) T)=_
         rw[bg,if_pos rfl,HX.out]
         rfl
        have HSL:Hid (aC fQ (aX id (fun x:bq=>{x with closed:=true,aP:=aP}) T)∧(aX id (fun x:bq=>{x with closed:=true,aP:=aP}) T).length≤64):=by
         refine⟨jX _ _ HS.out,?_⟩
         rw[fV,←iM.out]
         exact hlen
        have F8:=Lib.hid (uP id _ w3 tO HSL.out.1 HSL.out.2 VH.out (rD.out.file (rD.out.kind.resolve_right hkx)))
        clear hcut tO hset hOG hkG
        go_wp2_with fail
        go_ret
        rw[HQ.out]
        exact HT3.out.val _
 ·have HQ:=Lib.hid (wm (T:=T) (id:=id) (aP:=aP) (v:=dG T id) (by
   unfold qB dG at*
   cases hx:aj id T with
   |none=>rfl
   |some x=>
    rw[hx]at h0
    by_cases hk:x.kind=2
    ·simp[hk]
    ·exact absurd (by simp[hk]) h0) h0)
  generalize dG T id=f at*
  have hne:(f==0)=false:=by simpa using h0
  have hne2:(f !=0)=true:=by simpa using h0
  clear h hT h0
  go_enter Tryz.func32,Tryz.ntmps32
  go_wp2_with fail
  (with_reducible refine HF.out.mono ?_)
  rintro e w1 ⟨rfl,rfl⟩
  go_wp2_with fail
  go_ret
  exact eF.no HH.out (Below.refl _ _) HQ.out
end
theorem Cc {T:aA} {id v:Int} (h:gK T id=v) (hv:v≠0):cu T id=(v,T):=by
 unfold cu
 rw[h,if_neg hv]
def kX (E:List jm) (id:Int) (m:Nat):List jm:=E.take m++(E.drop m).filter fun e=> !decide (e.2.2=id)
theorem La {E:List jm} {id:Int} {m:Nat} {e:jm} (hx:E[m]? =some e):(kX E id (m+1))[m]? =some e:=by
 obtain⟨hm,h⟩:=List.getElem?_eq_some_iff.1 hx
 unfold kX
 rw[List.getElem?_append_left (by rw[List.length_take];omega),List.getElem?_take,if_pos (by omega)]
 exact hx
theorem Lb {E:List jm} {id:Int} {m:Nat} (hm:m≤E.length):m≤(kX E id m).length∧(kX E id m).length≤E.length:=by
 unfold kX
 have:=List.length_filter_le (fun e:jm=> !decide (e.2.2=id)) (E.drop m)
 rw[List.length_drop]at this
 rw[List.length_append,List.length_take]
 omega
theorem Lc {E:List jm} {id:Int} {m:Nat} {e:jm} (hx:E[m]? =some e) (he:e.2.2=id):(kX E id (m+1)).take m++(kX E id (m+1)).drop (m+1)=kX E id m:=by
 obtain⟨hm,h⟩:=List.getElem?_eq_some_iff.1 hx
 unfold kX
 have hl:(E.take (m+1)).length=m+1:=by rw[List.length_take];omega
 rw[List.take_append_of_le_length (by omega),List.take_take,Nat.min_eq_left (by omega),List.drop_append_of_le_length (by omega),List.drop_of_length_le (by omega),List.nil_append]
 congr 1
 rw[List.drop_eq_getElem_cons hm,h,List.filter_cons]
 simp[he]
theorem OX {E:List jm} {id:Int} {m:Nat} {e:jm} (hx:E[m]? =some e) (he:e.2.2≠id):kX E id (m+1)=kX E id m:=by
 obtain⟨hm,h⟩:=List.getElem?_eq_some_iff.1 hx
 unfold kX
 rw[List.take_succ_eq_append_getElem hm,h,List.drop_eq_getElem_cons hm,h,List.filter_cons]
 simp[he]
section
variable {F:Nat→Prop} {r:Nat} {T:aA}
set_option maxRecDepth 100000 in
set_option maxHeartbeats 8000000 in
theorem Ld (id:Int) (w:World) (h:kW F w r T) (hT:eH T):
  Calls Tryz.prog 112 #[ptr r, .int .i64 id] w (eF F w r (cu T id).2 (.int .i64 (cu T id).1)):=by
 have HF:=Lib.hid (vX id w h hT.tosJ)
 have hr0:=h.low r h.own
 have HH:=Lib.hid h
 by_cases h0:dG T id=0
 ·obtain⟨x,hx,hk⟩:∃x,aj id T=some x∧x.kind≠2:=by
   unfold dG at h0
   cases hx:aj id T with
   |none=>rw[hx]at h0;cases h0
   |some x=>
    rw[hx]at h0
    exact⟨x,rfl,fun hk=>by simp[hk]at h0⟩
  obtain⟨k,hi,hq⟩:=lU hT.sorted hx
  have hrf:K6 T id=k:=by unfold K6;rw[if_pos h0];exact hi
  rw[hrf,h0]at HF
  obtain⟨bN,oN,cN,hc0,hO,hbw,hkl,c0,c1,c2,c3,c4,c5⟩:=h.node hq
  simp only at c0 c1 c2 c3 c4 c5
  have i0:(0:Int)≤k:=by omega
  have hlen:=hT.len
  have F9:=Lib.hid hq
  have HS:=Lib.hid hT.sorted
  have hr1:=hr0
  have rD:=Lib.hid (hT.each id x hx)
  have HX:=Lib.hid hx
  have hkx:=hk
  have Ky:=nG hT
  have HTT:=Lib.hid hT
  have Le:=Lib.hid (rfl:T.length=T.length)
  obtain⟨aE,cE,p2,-,-,-⟩:=h.ent
  obtain⟨n,hn⟩:∃n,n=(aS T).length:=⟨_,rfl⟩
  rw[←hn]at p2 Ky
  have iM:=Lib.hid hn
  obtain⟨tl,htl⟩:∃tl,tl=T.length:=⟨_,rfl⟩
  rw[←htl]at hc0 hkl hlen
  have i1:(k:Int)<tl:=by omega
  have he:gK T id=if x.closed then 27 else 0:=by
   unfold gK
   rw[hx]
   simp only[if_neg hk]
  clear hx hk h hT h0 hn htl hi hq hrf hO
  cases hcl:x.closed with
  |true=>
   rw[hcl]at c5
   have HQ:=Lib.hid (Cc (he.trans (if_pos hcl)) (by omega))
   clear hcl he
   go_enter Tryz.func112,Tryz.ntmps112
   go_wp2_with fail
   (with_reducible refine HF.out.mono ?_)
   rintro e w1 ⟨rfl,rfl⟩
   go_wp2_with fail
   go_ret
   exact eF.no HH.out (Below.refl _ _) HQ.out
  |false=>
   rw[hcl]at c5
   have HQ:Hid (cu T id=(0,bF id (eP T id))):=by
    show cu T id=_
    unfold cu
    rw[he,if_neg (by rw[hcl];decide)]
    rfl
   clear hcl he
   have e1:IntKind.i64.wrap ((n:Int)-1)=(n:Int)-1:=IntWalk.i64_in _ (by omega)
   go_enter Tryz.func112,Tryz.ntmps112
   go_wp2_with fail
   (with_reducible refine HF.out.mono ?_)
   rintro e w1 ⟨rfl,rfl⟩
   go_wp2_with fail
   go_loopw [7] (fun i wr=>∃m:Nat,m≤n∧i= .int .i64 ((m:Int)-1)∧dM F w r T (T.map fun q=>q.2.b) (kX (aS T) id m) (.tuple #[]) (.returned (.tuple #[])) wr) (fun i _=>(intOf i+1).toNat)
   case atStart=>
    refine⟨n,Nat.le_refl _,rfl,?_⟩
    have e2:kX (aS T) id n=aS T:=by
     unfold kX
     have:=iM.out
     rw[List.take_of_length_le (by omega),List.drop_of_length_le (by omega)]
     simp
    rw[e2]
    exact dM.same HH.out (Below.refl _ _)
   case round=>
    obtain⟨m,hm,rfl,hTr⟩:=hrel
    have Y5:=Lib.hid hTr
    clear hTr
    cases m with
    |zero=>
     have HR:Hid (eF F w r (eP T id) (.tuple #[]) (.returned (.tuple #[])) wr):=by
      refine⟨rfl,Y5.out.2.1,?_⟩
      have h1:=Y5.out.2.2.names (T':=eP T id) (by unfold eP;rw[List.length_map]) (EX id T)
      rw[show kX (aS T) id 0=(aS T).filter fun e=> !decide (e.2.2=id)by unfold kX;simp,←zM,←Hw id T]at h1
      exact h1
     have hP:=HTT.out.tosJ.strip id
     have F8:=Lib.hid (uP id (fE id x) wr HR.out.2.2 hP.sorted hP.len (by rw[gZ,HX.out];rfl) (by
      unfold fE
      simp only
      rw[rD.out.file (rD.out.kind.resolve_right hkx)]
      rfl))
     clear hP
     rw[show((0:Nat):Int)-1= -1 by rfl]
     go_wp2_with fail
     (with_reducible refine F8.out.mono ?_)
     rintro e w4 Jw
     have yP:=Lib.hid Jw
     obtain rfl:=Jw.1
     clear Jw
     go_wp2_with fail
     go_ret
     rw[HQ.out]
     exact(HR.out.trans HH.out.low yP.out).val _
    |succ j=>
     have hjn:j<(aS T).length:=by have:=iM.out;omega
     have hx:(aS T)[j]? =some ((aS T)[j]'hjn):=List.getElem?_eq_getElem _
     obtain⟨q,hqe⟩:∃q,q=(aS T)[j]'hjn:=⟨_,rfl⟩
     rw[←hqe]at hx
     have QE:=Lib.hid hx
     have hR:=Y5.out.2.2
     have hrr:r<wr.heap.size:=hR.low r hR.own
     obtain⟨aR,cR,s2,-,hrow,-⟩:=hR.ent
     have hdl:=Lb (E:=aS T) (id:=id) (m:=j+1) (by omega)
     have U6:=Lib.hid (Jt j wr hR (by omega) (by have:=iM.out;omega))
     rw[show((j+1:Nat):Int)-1=(j:Int)by omega]
     obtain⟨b,off,rfl,hF,hb,hi,hc⟩:=hrow.wide jE rfl (La hx) (by omega)
     have d2:wr.cell? ⟨b,off+j*3+2,none⟩=some (.int .i64 q.2.2):=hc 2 (by omega)
     obtain⟨dl,VI⟩:∃dl,dl=(kX (aS T) id (j+1)).length:=⟨_,rfl⟩
     rw[←VI]at s2 hdl hi
     have j0:(0:Int)≤j:=by omega
     have j1:(j:Int)<dl:=by omega
     have e2:IntKind.i64.wrap ((j:Int)-1)=(j:Int)-1:=IntWalk.i64_in _ (by omega)
     clear hx hqe hR hrow hc VI
     by_cases hp:q.2.2=id
     ·have hpp:(q.2.2==id)=true:=by simpa using hp
      have HP:=Lib.hid (Lc QE.out hp)
      clear hp
      go_wp2_with fail
      (with_reducible refine U6.out.mono ?_)
      rintro e w4 Jw
      have yP:=Lib.hid Jw
      obtain rfl:=Jw.1
      clear Jw
      go_wp2_with fail
      go_roundw
      case rel=>exact⟨j,by omega,rfl,by rw[←HP.out];exact Y5.out.trans HH.out.low yP.out⟩
      case measure=>simp[intOf]
     ·have hpp:(q.2.2==id)=false:=by simpa using hp
      have HP:=Lib.hid (OX QE.out hp)
      clear hp
      go_wp2_with fail
      go_roundw
      case rel=>exact⟨j,by omega,rfl,by rw[←HP.out];exact Y5.out⟩
      case measure=>simp[intOf]
 ·have HQ:=Lib.hid (Cc (T:=T) (id:=id) (v:=dG T id) (by
   unfold gK dG at*
   cases hx:aj id T with
   |none=>rfl
   |some x=>
    rw[hx]at h0
    by_cases hk:x.kind=2
    ·simp[hk]
    ·exact absurd (by simp[hk]) h0) h0)
  generalize dG T id=f at*
  have hne:(f==0)=false:=by simpa using h0
  have hne2:(f !=0)=true:=by simpa using h0
  clear h hT h0
  go_enter Tryz.func112,Tryz.ntmps112
  go_wp2_with fail
  (with_reducible refine HF.out.mono ?_)
  rintro e w1 ⟨rfl,rfl⟩
  go_wp2_with fail
  go_ret
  exact eF.no HH.out (Below.refl _ _) HQ.out
end
def zS (E:List jm) (id:Int) (d:Int→Nat) (M k m:Nat):Prop:=m≤M∧∀e∈E.take k,e.1=id→1+d e.2.2≤m
theorem zS.step {E:List jm} {id:Int} {d:Int→Nat} {M k m m':Nat} {e:jm} (h:zS E id d M k m) (hx:E[k]? =some e) (hm:m≤m') (hM:m'≤M) (he:e.1=id→1+d e.2.2≤m'):zS E id d M (k+1) m':=by
 obtain⟨hk,h2⟩:=List.getElem?_eq_some_iff.1 hx
 refine⟨hM,fun y hy hyi=> ?_⟩
 rw[List.take_succ_eq_append_getElem hk,h2]at hy
 rcases List.mem_append.1 hy with h3|h3
 ·exact Nat.le_trans (h.2 y h3 hyi) hm
 ·simp only[List.mem_singleton]at h3
  subst h3
  exact he hyi
section
variable {F:Nat→Prop} {r:Nat} {T:aA}
end
section
variable {F:Nat→Prop} {r:Nat} {T:aA}
end
section
variable {F:Nat→Prop} {r:Nat} {T:aA}
end
end Go.Proofs.YtjnhnlabpccgjaaGreat
