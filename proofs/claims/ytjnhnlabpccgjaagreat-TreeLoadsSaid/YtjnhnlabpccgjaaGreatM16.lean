/- (*tree.Tree).names. slices.Equal of texts; path.Within. tree: Rename. -/
import Derived.Test.YtjnhnlabpccgjaaGreatM14
import Derived.Test.YtjnhnlabpccgjaaGreatM13
import Derived.Deep.CutBlock
import Derived.Deep.DeepCutAuto
import Derived.Test.YtjnhnlabpccgjaaGreatM08
namespace Go.Proofs.YtjnhnlabpccgjaaGreat
open Go.ChangeShapes Go.WideShapes Go.ChangeAt Go.RowKit
set_option linter.unusedVariables false
set_option linter.unusedSimpArgs false
theorem DR:(Tryz.prog.info? 9).map (fun i=>(i.zero,i.size,i.bytes))=some (some (.string ByteArray.empty),1,16):=by kernel_rfl
theorem A8:(Tryz.prog.info? 61).map (fun i=>(i.zero,i.size,i.bytes))=some (some (.slice none 0 0),1,24):=by kernel_rfl
section
variable {g:Nat→Own} {D:Nat→Prop} {p mb:Nat} {ib nb:Int→Nat} {T:aF}
def kX (p B:Nat) (w:World) (id a:Int) (u v:Value) (m:Nat) (xs:List Value) (L:List (List Nm)):Prop:=
 Calls Tryz.prog 129 #[ptr p, .int .i64 id, .int .i64 a,u,v] w fun e w'=>∃v',e= .returned v'∧bC B w v m xs L v' w'
theorem vR {n:Nm} (h:bV n=true):n.length≤16:=by
 unfold bV at h
 simp only[Bool.and_eq_true,decide_eq_true_eq]at h
 exact h.1.1.2
def uF (id a:Int) (q:List Nm):List (List Nm):=if a=id then[q]else[]
def Jp (B:Nat) (w:World) (v:Value) (m:Nat) (xs:List Value) (S:List (List Nm)) (L:Nm×Int→List (List Nm)) (x:bA) (T9 r:Nat) (v1:Value) (wr:World):Prop:=
 ∃left cnt,bC B w v m xs (S++(doneN left x.names).flatMap L) v1 wr∧dI cK wr T9 r (bL x) left cnt∧v1.ownBlock≠some r
theorem Jq {w w1 w2:World} {cv v':Value} {q:List Nm} {k:Nm} {o:Obj} {V:Value} (hV:∀b,V.ownBlock=some b→b<w.heap.size) (hB1:Below w.heap.size w w1) (hq:∀n∈q++[k],n.length≤maxLen)
  (hown:w2.ownsRow w.heap.size 9 1 v' (q.length+1) ((q.map strOf).map .string++[.string (strOf k)])) (hg:(w1.alloc o).grownBy w2 cv.ownBlock) (hcv:∀b,cv.ownBlock=some b→w.heap.size≤b):
  Below w.heap.size w w2∧gJ (fun b=>V.ownBlock≠some b) w2 v' (q++[k]):=by
 have hs1:=hB1.size
 have hs2:=hg.size
 have hsa:(w1.alloc o).heap.size=w1.heap.size+1:=by simp
 refine⟨⟨hg.os.trans hB1.os,hg.tape.trans hB1.tape,hg.output.trans hB1.output,by omega,fun b hb=> ?_⟩,?_⟩
 ·refine(hg.block b (by omega) (fun e=> ?_)).trans (((MapKept.heap_alloc w1 o).2 b (by omega)).trans (hB1.block b hb))
  have:=hcv b e.symm
  omega
 ·have h1:w2.ownsRow w.heap.size 9 1 v' (q.length+1) (((q++[k]).map strOf).map .string):=by simpa using hown
  exact(gJ.jI h1 hq).weak fun b _ hb he=>by have:=hV b he;omega
set_option maxHeartbeats 4000000 in
theorem qK (B:Nat) (id a:Int) (x:bA) (q:List Nm) (L:Nm×Int→List (List Nm)) (w:World) (u v:Value) (m:Nat) (xs:List Value) (h:aH g D w p mb ib nb T) (hT:OkW T) (hx:ah a T=some x) (hk:x.kind=2) (hBw:B≤w.heap.size) (hB:∀b,g b≠ .none∨D b→b<B)
  (hv:w.ownsRow B 61 1 v m xs) (hu:gJ (fun b=>v.ownBlock≠some b) w u q) (hq:∀k∈q,k.length≤16) (Tt:q.length≤64) (hm:m+(uF id a q++x.names.flatMap L).length≤100000)
  (hc:∀e∈x.names,∀w1 u1 v1 m1 xs1,aH g D w1 p mb ib nb T→B≤w1.heap.size→w1.ownsRow B 61 1 v1 m1 xs1→gJ (fun b=>v1.ownBlock≠some b) w1 u1 (q++[e.1])→m1+(L e).length≤100000→kX p B w1 id e.2 u1 v1 m1 xs1 (L e)):
  kX p B w id a u v m xs (uF id a q++x.names.flatMap L):=by
 obtain⟨S,hself⟩:∃S,S=uF id a q:=⟨_,rfl⟩
 rw[←hself]at hm⊢
 obtain⟨hc0,hpw,hmw⟩:=h.cell
 have kI:=hT.ids a x hx
 have hok:aV.ok a:=lC kI.1 (by omega)
 have hget:ah a (T.map fun q=>(q.1,ptr (ib q.1)))=some (ptr (ib a)):=by rw[dh,hx];rfl
 have HG:=Lib.hid hget
 have HC:=Lib.hid hc
 have O1:=Lib.hid (hT.each a x hx)
 have HX:=Lib.hid hx
 have HT:=Lib.hid hT
 have Cm:=Lib.hid h
 have zT:=Lib.hid hB
 have HV:=Lib.hid hv
 have HU:=Lib.hid hu
 have HQ:=Lib.hid hq
 have VQ:=Lib.hid (show ∀k∈q,k.length≤maxLen from fun k hk=>by have:=hq k hk;unfold maxLen;omega)
 have Rv:=Lib.hid (lQ hv)
 have hml:=hm
 rw[List.length_append]at hml
 have HS:=Lib.hid hself
 obtain⟨au,cu,rfl,Y7,hst⟩:=hu
 have HST:=Lib.hid hst
 have HK:=Lib.hid hk
 obtain⟨Ts,hi⟩:=info_parts DR
 have HI:=Lib.hid hi
 obtain⟨Tl,hil⟩:=info_parts A8
 have OM:=Lib.hid hil
 clear hx hT h hB hv hq hst hget hc hself hk hi hil hc0
 unfold kX
 go_enter Tryz.func129,Tryz.ntmps129
 go_upto_if 15 with(fail)
 go_cut [4] (fun v1 wx=>bC B w v m xs S v1 wx)
 case first=>
  by_cases ha:a=id
  ·have ha':(a==id)=true:=by simpa using ha
   have hS:S=[q]:=by rw[HS.out];exact if_pos ha
   have FZ:=Lib.hid (sK au q.length cu (q.map strOf) w HST.out (by omega))
   rw[hS]at hml
   clear ha
   go_wp2_with fail
   (with_reducible refine FZ.out.mono ?_)
   rintro e w1 ⟨cv,rfl,hcv,hB1⟩
   obtain⟨ac,cc,rfl,hcc⟩:=gU hcv
   have Tv:=Lib.hid hcv
   have HB1:=Lib.hid hB1
   have hs1:=hB1.size
   clear hcv hB1 FZ
   go_wp2_with (at_builtin;refine aW rfl _ _ 122 rfl B 61 _ (.slice none 0 0) 24 Tryz.underlying122 OM.out.1 OM.out.2.1 OM.out.2.2.1 OM.out.2.2.2 rfl v m xs rfl (kg HV.out fun b hb hbw=>((MapKept.heap_alloc w1 _).2 b (by omega)).trans (HB1.out.block b hbw)) (some ⟨w1.heap.size,0,none⟩) 1 1 [.slice ac q.length cc] rfl (rF _ _) (by simp[Value.oneCell']) (by unfold maxLen;simp at hml;omega) (by simp at hml;omega) (by simp;omega) ?_;intro A1 k1 w2 hown2 hgrow2 _ yM)
   have Ae:=bC.push HV.out HB1.out Tv.out VQ.out hown2 hgrow2 yM
   go_meet
   rw[hS]
   exact Ae
  ·have ha':(a==id)=false:=by simpa using ha
   have hS:S=[]:=by rw[HS.out];exact if_neg ha
   clear ha
   go_wp2_with fail
   go_meet
   rw[hS]
   exact bC.refl HV.out
 case rest=>
  have Ae:=Lib.hid hcut
  have hK1:=hcut.keeps.size
  have h1:=hcut.tree HV.out Cm.out zT.out
  obtain⟨w1,hw1⟩:∃w1:World,w1=wc:=⟨_,rfl⟩
  rw[←hw1]at Ae hK1 h1⊢
  clear hw1 hcut
  obtain⟨hc0,WE,WG⟩:=h1.cell
  obtain⟨c0,c1,c2,c3,c4,c5,c7,hiw⟩:=(h1.item a x HX.out).cell
  have fE:=Lib.hid h1.map
  have e2:fD x (nb a)= .map (some (nb a)):=if_pos HK.out
  rw[e2]at c7
  have HN:=Lib.hid ((h1.item a x HX.out).names HK.out)
  have hbw:=HN.out.lt
  have hnbB:nb a<B:=zT.out (nb a) (.inl (by rw[h1.kG a x HX.out HK.out];simp))
  clear h1 e2
  go_wp2_with (first|(at_lookup;refine aK aV rfl _ _ 104 107 rfl Tryz.underlying104 (Tryz.aT _) rfl fE.out a rfl hok ?_;rw[HG.out])|(at_range;refine jZ cK rfl _ 110 3 rfl Tryz.underlying110 rfl HN.out ?_;intro w0 hR0 hB0 hs0))
  go_frame
  go_loopw [4] (fun v2 wr=>Jp B w v m xs S L x (nb a) w1.heap.size v2 wr) (fun _ wr=>wr.rangeLeft (nb a) w1.heap.size)
  case atStart=>
   refine⟨_,_,?_,hR0,fun he=> ?_⟩
   ·have hD:doneN (fun k=>(ah k (bL x)).isSome) x.names=[]:=yD fun e he=>by rw[dA,aL nk O1.out.sorted he];rfl
    rw[hD]
    simpa using Ae.out.below hB0
   ·obtain⟨m9,xs9,_,ho9,_⟩:=Ae.out.own
    have:=lQ ho9 _ he
    omega
  case round=>
   obtain⟨left,cnt,hrel',hR,hne⟩:=hrel
   have Qw:=Lib.hid hrel'
   have HR:=Lib.hid hR
   have iE:=Lib.hid hne
   clear hrel' hR hne
   go_wp2_with (first|(at_next;refine lg cK rfl _ rfl rfl HR.out ?_ ?_))
   ·intro hdone
    have zS:=Lib.hid hdone
    clear hdone
    go_wp2
    go_ret
    refine⟨_,rfl,?_⟩
    have:=Qw.out
    rw[AX zS.out]at this
    exact this
   ·intro k v3 w3 cnt1 LB hleft hg2 mQ hlt hK1' hs1 hen
    rw[dA]at hg2
    cases hk2:ah k x.names with
    |none=>rw[hk2]at hg2;cases hg2
    |some j=>
     rw[hk2]at hg2
     cases hg2
     have hmem:=bq hk2
     have hrw:=HR.out.lt
     have DT:=Qw.out.iter hK1' HR.out.Rq (by omega) iE.out
     have Qx:=Lib.hid DT
     have HP3:=Lib.hid (DT.path HU.out)
     obtain⟨au3,cu3,Y8,hcu3,Ud⟩:=HP3.out
     simp only[Value.slice.injEq,true_and]at Y8
     obtain⟨rfl,rfl⟩:=Y8
     have FZ:=Lib.hid (sK au q.length cu (q.map strOf) w3 Ud (by omega))
     have hsz3:=DT.keeps.size
     have DU:=Lib.hid (pq (O1.out.sorted.apart nk) hmem hleft)
     have HTR3:=Lib.hid (DT.tree HV.out Cm.out zT.out)
     have hlm:=Dz L (fun z=>left z&& !decide (z=k)) x.names
     rw[(DU.out.flatMap_right L).length_eq,List.flatMap_append,List.length_append]at hlm
     simp only[List.flatMap_cons,List.flatMap_nil,List.append_nil]at hlm
     have BX:=Lib.hid ((O1.out).good _ hmem)
     have DV:=Lib.hid hmem
     have HR1:=Lib.hid mQ
     have AJ:=Lib.hid hlt
     clear hk2 hmem mQ hlt hK1' DT Ud hleft
     show wpList _ _ _ _ _ _
     have e3:cK.val k= .string (strOf k):=rfl
     rw[e3]at hen⊢
     clear e3
     go_wp2_with fail
     (with_reducible refine FZ.out.mono ?_)
     rintro e w4 ⟨cv,rfl,hcv,hB4⟩
     obtain⟨ac,cc,rfl,hcc⟩:=gU hcv
     have Tv:=Lib.hid hcv
     have dS:=Lib.hid hB4
     have hs4:=hB4.size
     clear hcv hB4 FZ
     go_wp2_with (at_builtin;refine aW rfl _ _ 61 rfl w3.heap.size 9 _ (.string ByteArray.empty) 16 Tryz.underlying61 HI.out.1 HI.out.2.1 HI.out.2.2.1 HI.out.2.2.2 rfl (.slice ac q.length cc) q.length ((q.map strOf).map .string) rfl (kg Tv.out fun b hb hbw=>(MapKept.heap_alloc w4 _).2 b hbw) (some ⟨w4.heap.size,0,none⟩) 1 1 [.string (strOf k)] rfl (rF _ _) (by simp[Value.oneCell']) (by unfold maxLen;omega) (by omega) (by simp;omega) ?_;intro A5 k5 w5 hown5 LY _ _)
     have Ue:=eu Tv.out
     obtain⟨VR,Y9⟩:=Jq (V:=u4) (fun b hb=>lQ (Qx.out.own).choose_spec.choose_spec.2.1 b hb) dS.out (fun n hn=>by
      rcases List.mem_append.1 hn with h1|h1
      ·exact VQ.out n h1
      ·obtain rfl:n=k:=by simpa using h1
       have:=vR BX.out
       unfold maxLen;omega) hown5 LY Ue
     have hs5:=VR.size
     have LZ:=Qx.out.below VR
     obtain⟨m5,xs5,L8,WH,htr⟩:=LZ.own
     have WI:=Lib.hid htr
     have h5:=LZ.tree HV.out Cm.out zT.out
     rw[List.length_append]at L8
     have Rm:=Lib.hid (HC.out (k,j) DV.out w5 (.slice A5 (q.length+1) k5) u4 m5 xs5 h5 (by omega) WH Y9 (by omega))
     have WJ:=Lib.hid WH
     have iQ:=Lib.hid VR
     clear h5 htr LZ WH hown5 LY Y9 VR Ue
     have Rn:=Lib.hid (show Calls Tryz.prog 129 #[ptr p, .int .i64 id, .int .i64 j, .slice A5 (q.length+1) k5,u4] w5 _ from Rm.out)
     (with_reducible refine Rn.out.mono ?_)
     rintro e w6 ⟨v6,rfl,L9⟩
     have Qy:=Lib.hid L9
     have xB:=Lib.hid L9.keeps
     clear L9
     go_wp2_with fail
     have hkeep:∀b,b<w3.heap.size→u4.ownBlock≠some b→w6.heap[b]? =w3.heap[b]? :=fun b hb hn=>(xB.out.block b (by omega) hn).trans (iQ.out.block b hb)
     have Uf:=HR1.out.lt
     have hkn:=hkeep (nb a) Uf.1 (fun he=>by have:=eu WJ.out _ he;omega)
     have hkr:=hkeep w1.heap.size Uf.2.1 iE.out
     go_roundw
     case rel=>
      refine⟨_,cnt1,(WI.out _ _ _ Qy.out).perm ?_,HR1.out.kept hkn hkr,fun he=> ?_⟩
      ·have hp:=DU.out.flatMap_right L
       rw[List.flatMap_append]at hp
       simp only[List.flatMap_cons,List.flatMap_nil,List.append_nil]at hp
       rw[List.append_assoc]
       exact hp.symm.append_left S
      ·rcases Qy.out.new _ he with h1|h1
       ·exact iE.out h1
       ·omega
     case measure=>
      have h4:dI cK w6 (nb a) w1.heap.size (bL x) _ cnt1:=HR1.out.kept hkn hkr
      rw[h4.measure,HR.out.measure]
      exact AJ.out
set_option maxHeartbeats 4000000 in
theorem qg (B:Nat) (id a:Int) (x:bA) (q:List Nm) (L:Nm×Int→List (List Nm)) (w:World) (u v:Value) (m:Nat) (xs:List Value) (h:aH g D w p mb ib nb T) (hT:OkW T) (hx:ah a T=some x) (hk:¬x.kind=2) (hBw:B≤w.heap.size) (hB:∀b,g b≠ .none∨D b→b<B)
  (hv:w.ownsRow B 61 1 v m xs) (hu:gJ (fun b=>v.ownBlock≠some b) w u q) (hq:∀k∈q,k.length≤16) (Tt:q.length≤64) (hm:m+(uF id a q++x.names.flatMap L).length≤100000)
  (hc:∀e∈x.names,∀w1 u1 v1 m1 xs1,aH g D w1 p mb ib nb T→B≤w1.heap.size→w1.ownsRow B 61 1 v1 m1 xs1→gJ (fun b=>v1.ownBlock≠some b) w1 u1 (q++[e.1])→m1+(L e).length≤100000→kX p B w1 id e.2 u1 v1 m1 xs1 (L e)):
  kX p B w id a u v m xs (uF id a q++x.names.flatMap L):=by
 obtain⟨S,hself⟩:∃S,S=uF id a q:=⟨_,rfl⟩
 rw[←hself]at hm⊢
 obtain⟨hc0,hpw,hmw⟩:=h.cell
 have kI:=hT.ids a x hx
 have hok:aV.ok a:=lC kI.1 (by omega)
 have hget:ah a (T.map fun q=>(q.1,ptr (ib q.1)))=some (ptr (ib a)):=by rw[dh,hx];rfl
 have HG:=Lib.hid hget
 have HC:=Lib.hid hc
 have O1:=Lib.hid (hT.each a x hx)
 have HX:=Lib.hid hx
 have HT:=Lib.hid hT
 have Cm:=Lib.hid h
 have zT:=Lib.hid hB
 have HV:=Lib.hid hv
 have HU:=Lib.hid hu
 have HQ:=Lib.hid hq
 have VQ:=Lib.hid (show ∀k∈q,k.length≤maxLen from fun k hk=>by have:=hq k hk;unfold maxLen;omega)
 have Rv:=Lib.hid (lQ hv)
 have hml:=hm
 rw[List.length_append]at hml
 have HS:=Lib.hid hself
 obtain⟨au,cu,rfl,Y7,hst⟩:=hu
 have HST:=Lib.hid hst
 have HK:=Lib.hid hk
 obtain⟨Ts,hi⟩:=info_parts DR
 have HI:=Lib.hid hi
 obtain⟨Tl,hil⟩:=info_parts A8
 have OM:=Lib.hid hil
 clear hx hT h hB hv hq hst hget hc hself hk hi hil hc0
 unfold kX
 go_enter Tryz.func129,Tryz.ntmps129
 go_upto_if 15 with(fail)
 go_cut [4] (fun v1 wx=>bC B w v m xs S v1 wx)
 case first=>
  by_cases ha:a=id
  ·have ha':(a==id)=true:=by simpa using ha
   have hS:S=[q]:=by rw[HS.out];exact if_pos ha
   have FZ:=Lib.hid (sK au q.length cu (q.map strOf) w HST.out (by omega))
   rw[hS]at hml
   clear ha
   go_wp2_with fail
   (with_reducible refine FZ.out.mono ?_)
   rintro e w1 ⟨cv,rfl,hcv,hB1⟩
   obtain⟨ac,cc,rfl,hcc⟩:=gU hcv
   have Tv:=Lib.hid hcv
   have HB1:=Lib.hid hB1
   have hs1:=hB1.size
   clear hcv hB1 FZ
   go_wp2_with (at_builtin;refine aW rfl _ _ 122 rfl B 61 _ (.slice none 0 0) 24 Tryz.underlying122 OM.out.1 OM.out.2.1 OM.out.2.2.1 OM.out.2.2.2 rfl v m xs rfl (kg HV.out fun b hb hbw=>((MapKept.heap_alloc w1 _).2 b (by omega)).trans (HB1.out.block b hbw)) (some ⟨w1.heap.size,0,none⟩) 1 1 [.slice ac q.length cc] rfl (rF _ _) (by simp[Value.oneCell']) (by unfold maxLen;simp at hml;omega) (by simp at hml;omega) (by simp;omega) ?_;intro A1 k1 w2 hown2 hgrow2 _ yM)
   have Ae:=bC.push HV.out HB1.out Tv.out VQ.out hown2 hgrow2 yM
   go_meet
   rw[hS]
   exact Ae
  ·have ha':(a==id)=false:=by simpa using ha
   have hS:S=[]:=by rw[HS.out];exact if_neg ha
   clear ha
   go_wp2_with fail
   go_meet
   rw[hS]
   exact bC.refl HV.out
 case rest=>
  have Ae:=Lib.hid hcut
  have hK1:=hcut.keeps.size
  have h1:=hcut.tree HV.out Cm.out zT.out
  obtain⟨w1,hw1⟩:∃w1:World,w1=wc:=⟨_,rfl⟩
  rw[←hw1]at Ae hK1 h1⊢
  clear hw1 hcut
  obtain⟨hc0,WE,WG⟩:=h1.cell
  obtain⟨c0,c1,c2,c3,c4,c5,c7,hiw⟩:=(h1.item a x HX.out).cell
  have fE:=Lib.hid h1.map
  have e2:fD x (nb a)= .map none:=if_neg HK.out
  rw[e2]at c7
  have FL:=Lib.hid (O1.out.file (O1.out.kind.resolve_right HK.out))
  clear h1 e2
  go_wp2_with (first|(at_lookup;refine aK aV rfl _ _ 104 107 rfl Tryz.underlying104 (Tryz.aT _) rfl fE.out a rfl hok ?_;rw[HG.out])|(at_range;refine kJ rfl _ 110 9 3 rfl Tryz.underlying110 rfl ?_))
  go_frame
  go_loopw [4] (fun v2 wr=>bC B w v m xs S v2 wr∧wr.heap[w1.heap.size]? =some (.mapIter none 0 #[] 0)) (fun _ wr=>0)
  case atStart=>exact⟨Ae.out.below (wall w1 _),(MapKept.heap_alloc w1 _).1⟩
  case round=>
   obtain⟨hr,hit⟩:=hrel
   have HRR:=Lib.hid hr
   clear hr
   go_wp2_with (first|(at_next;refine lN rfl _ rfl rfl hit ?_))
   go_ret
   refine⟨_,rfl,?_⟩
   rw[FL.out]
   simpa using HRR.out
theorem rZ (hT:OkW T):∀(n B:Nat) (id a:Int) (q:List Nm) (w:World) (u v:Value) (m:Nat) (xs:List Value),aH g D w p mb ib nb T→(ah a T).isSome=true→um T n a→B≤w.heap.size→(∀b,g b≠ .none∨D b→b<B)→
  w.ownsRow B 61 1 v m xs→gJ (fun b=>v.ownBlock≠some b) w u q→(∀k∈q,k.length≤16)→q.length+n≤64→m+(fP T id n a q).length≤100000→kX p B w id a u v m xs (fP T id n a q)
 |0,B,id,a,q,w,u,v,m,xs,h,ha,hs,hBw,hB,hv,hu,hq,Tt,hm=>by
  obtain⟨x,hx⟩:=Option.isSome_iff_exists.1 ha
  have e:x.names=[]:=by have h1:aJ T a=[]:=hs;rw[bT hx]at h1;exact h1
  have e2:fP T id 0 a q=uF id a q++x.names.flatMap fun _=>[]:=by rw[e];simp[fP,uF]
  rw[e2]at hm⊢
  have hc:∀e∈x.names,∀w1 u1 v1 m1 xs1,aH g D w1 p mb ib nb T→B≤w1.heap.size→w1.ownsRow B 61 1 v1 m1 xs1→gJ (fun b=>v1.ownBlock≠some b) w1 u1 (q++[e.1])→m1+([]:List (List Nm)).length≤100000→kX p B w1 id e.2 u1 v1 m1 xs1 []:=fun y hy=>by rw[e]at hy;cases hy
  by_cases hk:x.kind=2
  ·exact qK B id a x q (fun _=>[]) w u v m xs h hT hx hk hBw hB hv hu hq (by omega) hm hc
  ·exact qg B id a x q (fun _=>[]) w u v m xs h hT hx hk hBw hB hv hu hq (by omega) hm hc
 |n+1,B,id,a,q,w,u,v,m,xs,h,ha,hs,hBw,hB,hv,hu,hq,Tt,hm=>by
  obtain⟨x,hx⟩:=Option.isSome_iff_exists.1 ha
  have e:=bT hx
  have e2:fP T id (n+1) a q=uF id a q++x.names.flatMap fun e=>fP T id n e.2 (q++[e.1]):=by rw[←e];rfl
  rw[e2]at hm⊢
  have hc:∀e∈x.names,∀w1 u1 v1 m1 xs1,aH g D w1 p mb ib nb T→B≤w1.heap.size→w1.ownsRow B 61 1 v1 m1 xs1→gJ (fun b=>v1.ownBlock≠some b) w1 u1 (q++[e.1])→m1+(fP T id n e.2 (q++[e.1])).length≤100000→kX p B w1 id e.2 u1 v1 m1 xs1 (fP T id n e.2 (q++[e.1])):=fun y hy w1 u1 v1 m1 xs1 h1 h2 h3 h4 h5=>
   rZ hT n B id y.2 (q++[y.1]) w1 u1 v1 m1 xs1 h1 (hT.leads a x hx y hy).1 (hs y (by rw[e];exact hy)) h2 hB h3 h4 (fun k hk=>by
    rcases List.mem_append.1 hk with h6|h6
    ·exact hq k h6
    ·obtain rfl:k=y.1:=by simpa using h6
     exact vR ((hT.each a x hx).good y hy)) (by simp;omega) h5
  by_cases hk:x.kind=2
  ·exact qK B id a x q _ w u v m xs h hT hx hk hBw hB hv hu hq (by omega) hm hc
  ·exact qg B id a x q _ w u v m xs h hT hx hk hBw hB hv hu hq (by omega) hm hc
end
theorem A_ {S S':Nat→Prop} (a a':Option Addr) (len cap len' cap':Nat) (ss ss':List ByteArray) (w:World) (h:aP S w a len ss) (h':aP S' w a' len' ss'):
  Calls Tryz.prog 174 #[.slice a len cap, .slice a' len' cap'] w fun e w'=>e= .returned (.bool (decide (ss=ss')))∧Below w.heap.size w w':=by
 have hl:=h.length
 have hl':=h'.length
 have hm:=h.row.small
 have hm':=h'.row.small
 unfold maxLen at hm hm'
 by_cases hne:len=len'
 ·subst hne
  by_cases h0:len=0
  ·subst h0
   refine(Tryz.slices_Equal_string_empty a a' cap 0 cap' w (by omega)).mono ?_
   rintro e w' ⟨rfl,rfl⟩
   obtain rfl:ss=[]:=by simpa using hl
   obtain rfl:ss'=[]:=by simpa using hl'
   exact⟨rfl,Below.refl _ _⟩
  ·obtain⟨b,off,rfl,_,_,_⟩:=h.row.at_ (by omega)
   obtain⟨b',off',rfl,_,_,_⟩:=h'.row.at_ (by omega)
   refine(Tryz.slices_Equal_string b off len cap b' off' len cap' ss ss' w (by omega) (by omega) (by omega) (by omega) (fun j hj=>nQ h j hj) (fun j hj=>nQ h' j hj)).mono ?_
   rintro e w' ⟨rfl,q,rfl⟩
   rw[List.take_of_length_le (by omega),List.take_of_length_le (by omega)]
   exact⟨rfl,⟨rfl,rfl,rfl,Nat.le_refl _,fun _ _=>rfl⟩⟩
 ·refine(Tryz.slices_Equal_string_lens a a' len cap len' cap' w hne).mono ?_
  rintro e w' ⟨rfl,rfl⟩
  have:ss≠ss':=fun e=>hne (by rw[←hl,←hl',e])
  exact⟨by simp[this],Below.refl _ _⟩
def jG (ss ss':List ByteArray):Bool:=decide (ss.take ss'.length=ss')
theorem DW {S S':Nat→Prop} (a a':Option Addr) (len cap len' cap':Nat) (ss ss':List ByteArray) (w:World) (h:aP S w a len ss) (h':aP S' w a' len' ss') (hcap:len≤cap):
  Calls Tryz.prog 148 #[.slice a len cap, .slice a' len' cap'] w fun e w'=>e= .returned (.bool (jG ss ss'))∧Below w.heap.size w w':=by
 have hl:=h.length
 have hl':=h'.length
 have hm:=h.row.small
 unfold maxLen at hm
 by_cases hle:len'≤len
 ·have hT:=h.take len' hle
  have hp:decide (ss.take len'=ss')=jG ss ss':=by
   unfold jG;rw[hl']
  have HP:=Lib.hid hp
  clear hp hl hl'
  have e5:len'≤cap:=by omega
  cases a with
  |none=>
   have h0:len'=0:=by
    rcases Nat.eq_zero_or_pos len' with h0|h0
    ·exact h0
    ·obtain⟨b,off,e,_⟩:=h.row.at_ (by omega)
     cases e
   subst h0
   go_enter Tryz.func148,Tryz.ntmps148
   go_wp2_with fail
   refine(A_ _ _ _ _ _ _ _ _ _ hT h').mono ?_
   rintro e w1 ⟨rfl,hb⟩
   rw[HP.out]
   go_wp2_with fail
   go_ret
   exact⟨rfl,hb⟩
  |some ad=>
   go_enter Tryz.func148,Tryz.ntmps148
   go_wp2_with fail
   refine(A_ _ _ _ _ _ _ _ _ _ hT h').mono ?_
   rintro e w1 ⟨rfl,hb⟩
   rw[HP.out]
   go_wp2_with fail
   go_ret
   exact⟨rfl,hb⟩
 ·have hp:jG ss ss'=false:=by
   unfold jG
   rw[decide_eq_false_iff_not]
   intro hh
   have:=congrArg List.length hh
   simp at this
   omega
  have HP:=Lib.hid hp
  clear hp hl hl'
  go_enter Tryz.func148,Tryz.ntmps148
  go_wp2_with fail
  go_ret
  exact⟨fC HP.out.symm,Below.refl _ _⟩
theorem wM (p q:List Nm):jG (p.map strOf) (q.map strOf)=iH p q:=by
 unfold jG iH
 rw[List.length_map,←List.map_take]
 have:((p.take q.length).map strOf=q.map strOf)↔p.take q.length=q:=by
  constructor
  ·intro h
   have:=congrArg Qr h
   rwa [rA,rA]at this
  ·intro h;rw[h]
 simp only[this]
section
variable {g:Nat→Own} {D:Nat→Prop} {p mb:Nat} {ib nb:Int→Nat} {T:aF}
theorem DX {w w2 w3 w4:World} {d1 d2 id:Int} {n1 n2:Nm} {y:bA} (h:aH g D w p mb ib nb T) (hb:Below w.heap.size w w2) (h3:aH g D w3 p mb ib nb (ak T d1 n1)∧Keeps (fun b=>g b≠ .none) w2 w3)
  (hy:ah d2 (ak T d1 n1)=some y) (hk:y.kind=2) (hM:MapAt cK w4 (nb d2) (bZ cK.lt n2 (.int .i64 id) (bL y))) (hT:w3.mapTurned w4 (nb d2)):Turn g D w p mb (setName (ak T d1 n1) d2 n2 id) (.int .i64 0) (.returned (.int .i64 0)) w4:=by
 have hg:=h3.1.kG d2 y hy hk
 refine Turn.of rfl (h3.1.set hy hk hM hT) ((jO hb).trans (h3.2.trans ((fM hT).mono fun b _ hb=> ?_) (fun _ _ h=>h)) (fun _ _ h=>h))
 rw[show b=nb d2 from hb,hg];simp
set_option maxRecDepth 100000 in
set_option maxHeartbeats 8000000 in
theorem Jr {S S':Nat→Prop} (a:Option Addr) (n c:Nat) (ls:List Nm) (a':Option Addr) (n' c':Nat) (ls':List Nm) (w:World) (h:aH g D w p mb ib nb T) (hO:gI T) (hS:aP S w a n (ls.map strOf)) (hS':aP S' w a' n' (ls'.map strOf)) (hc:n≤c) (oP:n≤1000000) (hc':n'≤c') (F3:n'≤1000000):
  Calls Tryz.prog 105 #[ptr p, .slice a n c, .slice a' n' c'] w (Turn g D w p mb (bg T ls ls').2 (.int .i64 (bg T ls ls').1)):=by
 have HH:=Lib.hid h
 have hT:=hO.1
 have HT:=Lib.hid hT
 have HF:=Lib.hid (Di a n c ls a' n' c' ls' w hS hS')
 have lJ:=Lib.hid (fun w1 (hb:Below w.heap.size w w1)=>nS a n c ls w1 (h.below hb (Nat.le_refl _)) hT (hS.below hb (Nat.le_refl _)))
 have rR:=Lib.hid (fun w1 (hb:Below w.heap.size w w1)=>rC a' n' c' ls' w1 (h.below hb (Nat.le_refl _)) hT (hS'.below hb (Nat.le_refl _)) hc' F3)
 have KJ:=Lib.hid (fun w1 (hb:Below w.heap.size w w1)=>DW a' a n' c' n c (ls'.map strOf) (ls.map strOf) w1 (hS'.below hb (Nat.le_refl _)) (hS.below hb (Nat.le_refl _)) hc')
 rw[wM]at KJ
 have hl':ls'.length=n':=by have:=hS'.length;simpa using this
 have Y_:=Lib.hid (fun(d:Int) (nm:Nm) (hp:aC T ls=(d,nm,0)) w1 (hb:Below w.heap.size w w1)=>yu a n c ls w1 (h.below hb (Nat.le_refl _)) hT (hS.below hb (Nat.le_refl _)) hc oP hp)
 have Za:=Lib.hid (fun id (hi:(ah id T).isSome=true) w1 (hb:Below w.heap.size w w1)=>Du hT 8 id w1 (h.below hb (Nat.le_refl _)) hi (hO.FM id) (by omega))
 have HIT:=Lib.hid (fun w1 (hb:Below w.heap.size w w1)=>h.below hb (Nat.le_refl _))
 have L_:=Lib.hid (fun id=>(hO.FM id).le)
 clear h hT hS hS' hO
 obtain⟨f,hf0⟩:∃f,f=iC ls ls':=⟨_,rfl⟩
 rw[←hf0]at HF
 obtain⟨⟨id,e0⟩,hq⟩:∃q,q=aA T 0 ls:=⟨_,rfl⟩
 rw[←hq]at lJ
 obtain⟨⟨d,nm,z⟩,hq2⟩:∃q,q=aC T ls':=⟨_,rfl⟩
 unfold mM at rR
 rw[←hq2]at rR
 have CS:Hid (gV T ls ls'=if f≠0 then f else if e0≠0 then e0 else if id=0 then 1 else if z≠0 then z else if bf T id=2∧iH ls' ls=true then 1 else
   match ah nm (aJ T d)with
   |some k=>if k=id then 0 else 21
   |none=>if 8<ls'.length+gy T 8 id then 3 else 0):=by
  unfold gV
  rw[←hf0,←hq,←hq2]<;>exact rfl
 have OO:Hid (∀k,gV T ls ls'=k→k≠0→bg T ls ls'=(k,T)):=fun k hk h0=>by
  unfold bg
  rw[hk,if_neg (fun h=>h0 h.1)]
 have HF0:=Lib.hid hf0
 have HQ:=Lib.hid hq
 have Tw:=Lib.hid hq2
 clear hf0 hq hq2
 go_enter Tryz.func105,Tryz.ntmps105
 go_wp2_with fail
 (with_reducible refine HF.out.mono ?_)
 rintro e w1 ⟨rfl,hb1⟩
 have HB1:=Lib.hid hb1
 clear hb1
 by_cases hf:f=0
 ·subst hf
  go_wp2_with fail
  (with_reducible refine(lJ.out w1 HB1.out).mono ?_)
  rintro e w2 ⟨rfl,rfl⟩
  by_cases he:e0=0
  ·subst he
   by_cases qm:id=0
   ·have HM:Hid (bg T ls ls'=(1,T)):=OO.out 1 (by rw[CS.out,if_neg (by simp),if_neg (by simp),if_pos qm]) (by decide)
    subst qm
    go_wp2_with fail
    go_ret
    rw[HM.out]
    exact Turn.same HH.out HB1.out rfl
   ·have hid1:(id==0)=false:=by simpa using qm
    have Dt:=Lib.hid qm
    clear qm
    go_wp2_with fail
    (with_reducible refine(rR.out w1 HB1.out).mono ?_)
    rintro e w2 ⟨rfl,hb2⟩
    have HB2:=Lib.hid (HB1.out.trans (hb2.mono HB1.out.size))
    clear hb2
    by_cases hz:z=0
    ·subst hz
     (first|rw[if_pos rfl]|rw[if_pos trivial])
     have hfz:=mP HF0.out.symm
     obtain⟨x,hx,hxk,hnm⟩:=fV HT.out (p:=ls') (by rw[←Tw.out])
     rw[←Tw.out]at hx hnm
     have hgn:=h_ hfz.2 _ hnm
     have j_:=Lv hgn
     obtain⟨y,hy⟩:=Option.isSome_iff_exists.1 (oZ HQ.out.symm HT.out)
     have kI:=HT.out.ids id y hy
     have hok:aV.ok id:=lC kI.1 (by omega)
     have HG:Hid (ah id (T.map fun q=>(q.1,ptr (ib q.1)))=some (ptr (ib id))):=by rw[dh,hy];rfl
     have HX:=Lib.hid hx
     have Aa:=Lib.hid hxk
     have HY:=Lib.hid hy
     have BX:=Lib.hid hgn
     have VT:=Lib.hid hfz
     have hA2:=HIT.out w2 HB2.out
     obtain⟨d7,dZ⟩:=jN hA2 hx hxk
     have lW:=Lib.hid dZ
     have og:=Lib.hid hA2.map
     have q0:=hA2.cell.1
     obtain⟨_,c1,_⟩:=(hA2.item id y hy).cell
     clear hx hxk hnm hgn hy hfz hA2 dZ
     have Ug:Hid (gV T ls ls'=if bf T id=2∧iH ls' ls=true then 1 else match ah nm x.names with|some k=>if k=id then 0 else 21|none=>if 8<ls'.length+gy T 8 id then 3 else 0):=by
      rw[CS.out,if_neg (by simp),if_neg (by simp),if_neg Dt.out,if_neg (by simp),bT HX.out];exact rfl
     by_cases hwk:bf T id=2∧iH ls' ls=true
     ·have HM:Hid (bg T ls ls'=(1,T)):=OO.out 1 (by rw[Ug.out,if_pos hwk]) (by decide)
      have hk2:y.kind=2:=by rw[←aY HY.out];exact hwk.1
      have hW:=hwk.2
      rw[hW]at KJ
      rw[hk2]at c1
      clear hwk hk2 hW
      cases hj:ah nm x.names with
      |none=>
       have rD:Hid (ah nm (bL x)=none):=by rw[dA,hj];rfl
       clear hj
       go_wp2_with (first|(at_lookup;refine aG cK rfl _ _ 110 3 rfl Tryz.underlying110 (Tryz.dL _) rfl lW.out nm rfl j_ ?_;rw[rD.out])|(at_lookup;refine aK aV rfl _ _ 104 107 rfl Tryz.underlying104 (Tryz.aT _) rfl og.out id rfl hok ?_;rw[HG.out]))
       (with_reducible refine(KJ.out w2 HB2.out).mono ?_)
       rintro e w3 ⟨rfl,hb3⟩
       have HB3:=Lib.hid (HB2.out.trans (hb3.mono HB2.out.size))
       clear hb3
       go_wp2_with fail
       go_ret
       rw[HM.out]
       exact Turn.same HH.out HB3.out rfl
      |some j=>
       have rD:Hid (ah nm (bL x)=some (.int .i64 j)):=by rw[dA,hj];rfl
       clear hj
       go_wp2_with (first|(at_lookup;refine aG cK rfl _ _ 110 3 rfl Tryz.underlying110 (Tryz.dL _) rfl lW.out nm rfl j_ ?_;rw[rD.out])|(at_lookup;refine aK aV rfl _ _ 104 107 rfl Tryz.underlying104 (Tryz.aT _) rfl og.out id rfl hok ?_;rw[HG.out]))
       (with_reducible refine(KJ.out w2 HB2.out).mono ?_)
       rintro e w3 ⟨rfl,hb3⟩
       have HB3:=Lib.hid (HB2.out.trans (hb3.mono HB2.out.size))
       clear hb3
       go_wp2_with fail
       go_ret
       rw[HM.out]
       exact Turn.same HH.out HB3.out rfl
     ·have qo:Hid (gV T ls ls'=match ah nm x.names with|some k=>if k=id then 0 else 21|none=>if 8<ls'.length+gy T 8 id then 3 else 0):=by
       rw[Ug.out,if_neg hwk];exact rfl
      by_cases hk2:y.kind=2
      ·have hW:iH ls' ls=false:=by
        cases hw:iH ls' ls with
        |false=>rfl
        |true=>exact absurd ⟨(aY HY.out).trans hk2,hw⟩ hwk
       rw[hW]at KJ
       rw[hk2]at c1
       clear hwk hk2 hW
       cases hj:ah nm x.names with
       |some j=>
        have rD:Hid (ah nm (bL x)=some (.int .i64 j)):=by rw[dA,hj];rfl
        have Ma:Hid ((ah nm x.names).isSome=true):=by rw[hj];exact rfl
        rw[hj]at qo
        clear hj
        by_cases hji:j=id
        ·rw[hji]at rD qo
         clear hji
         have HM:Hid (bg T ls ls'=(0,T)):=by
          unfold bg
          rw[←Tw.out,bT HX.out,Ma.out,qo.out]
          simp only[if_pos,if_neg,and_false,Bool.true_eq_false,if_false]
          first|exact rfl|exact trivial
         go_wp2_with (first|(at_lookup;refine aG cK rfl _ _ 110 3 rfl Tryz.underlying110 (Tryz.dL _) rfl lW.out nm rfl j_ ?_;rw[rD.out])|(at_lookup;refine aK aV rfl _ _ 104 107 rfl Tryz.underlying104 (Tryz.aT _) rfl og.out id rfl hok ?_;rw[HG.out]))
         (with_reducible refine(KJ.out w2 HB2.out).mono ?_)
         rintro e w3 ⟨rfl,hb3⟩
         have HB3:=Lib.hid (HB2.out.trans (hb3.mono HB2.out.size))
         clear hb3
         go_wp2_with fail
         go_ret
         rw[HM.out]
         exact Turn.same HH.out HB3.out rfl
        ·have hne:(j==id)=false:=by simpa using hji
         have HM:Hid (bg T ls ls'=(21,T)):=OO.out 21 (by rw[qo.out];simp only[if_neg hji]) (by decide)
         clear hji
         go_wp2_with (first|(at_lookup;refine aG cK rfl _ _ 110 3 rfl Tryz.underlying110 (Tryz.dL _) rfl lW.out nm rfl j_ ?_;rw[rD.out])|(at_lookup;refine aK aV rfl _ _ 104 107 rfl Tryz.underlying104 (Tryz.aT _) rfl og.out id rfl hok ?_;rw[HG.out]))
         (with_reducible refine(KJ.out w2 HB2.out).mono ?_)
         rintro e w3 ⟨rfl,hb3⟩
         have HB3:=Lib.hid (HB2.out.trans (hb3.mono HB2.out.size))
         clear hb3
         go_wp2_with fail
         go_ret
         rw[HM.out]
         exact Turn.same HH.out HB3.out rfl
       |none=>
        have rD:Hid (ah nm (bL x)=none):=by rw[dA,hj];rfl
        have HJ:=Lib.hid hj
        rw[hj]at qo
        clear hj
        have Mc:=mE VT.out.2
        have hdd:=L_.out id
        have NW:=Lib.hid (Za.out id (by rw[HY.out];rfl))
        unfold sI at NW
        generalize gy T 8 id=dd at qo NW hdd
        rw[hl']at qo Mc
        have e1:IntKind.i64.wrap ((n':Int)+(dd:Int))=(n':Int)+(dd:Int):=IntWalk.i64_in _ (by omega)
        by_cases hdp:8<n'+dd
        ·have HM:Hid (bg T ls ls'=(3,T)):=OO.out 3 (by rw[qo.out];simp only[if_pos hdp]) (by decide)
         have hd1:decide ((8:Int)<(n':Int)+(dd:Int))=true:=by simp only[decide_eq_true_eq];omega
         clear hdp
         go_wp2_with (first|(at_lookup;refine aG cK rfl _ _ 110 3 rfl Tryz.underlying110 (Tryz.dL _) rfl lW.out nm rfl j_ ?_;rw[rD.out])|(at_lookup;refine aK aV rfl _ _ 104 107 rfl Tryz.underlying104 (Tryz.aT _) rfl og.out id rfl hok ?_;rw[HG.out]))
         (with_reducible refine(KJ.out w2 HB2.out).mono ?_)
         rintro e w3 ⟨rfl,hb3⟩
         have HB3:=Lib.hid (HB2.out.trans (hb3.mono HB2.out.size))
         clear hb3
         go_wp2_with fail
         (with_reducible refine(NW.out w3 HB3.out).mono ?_)
         rintro e w4 ⟨rfl,hb4⟩
         have dS:=Lib.hid (HB3.out.trans (hb4.mono HB3.out.size))
         clear hb4
         go_wp2_with fail
         go_ret
         rw[HM.out]
         exact Turn.same HH.out dS.out rfl
        ·have hd1:decide ((8:Int)<(n':Int)+(dd:Int))=false:=by simp only[decide_eq_false_iff_not];omega
         have hpn:ls≠[]:=fun e=>by
          have h1:id=0:=congrArg Prod.fst (HQ.out.trans (by rw[e]<;>exact(rfl:aA T 0 []=(0,0))))
          exact Dt.out h1
         obtain⟨d1,x1,n1,ep,-,hx1,Cn,hn1,DY,-⟩:=bQ HQ.out.symm hpn
         have Md:=Lv (h_ VT.out.1 _ DY)
         have WK:=Lib.hid (Y_.out d1 n1 ep)
         have KL:=Lib.hid hx1
         have F4:=Lib.hid Cn
         have WL:=Lib.hid hn1
         have HM:Hid (bg T ls ls'=(0,setName (ak T d1 n1) d nm id)):=by
          have h0:gV T ls ls'=0:=by rw[qo.out];simp only[if_neg hdp]
          have h1:(ah nm (aJ T d)).isSome=false:=by rw[bT HX.out,HJ.out];rfl
          unfold bg nX
          rw[←Tw.out,←HQ.out,ep,h0]
          simp only[h1,and_self,if_true]
          first|exact rfl|exact trivial
         have hc3:∃x3,ah d (ak T d1 n1)=some x3∧x3.kind=2∧ah nm x3.names=none:=by
          unfold ak
          rw[aS]
          by_cases hd:d=d1
          ·subst hd
           have h2:=KL.out
           rw[HX.out]at h2;cases h2
           rw[if_pos rfl,HX.out]
           refine⟨_,rfl,Aa.out,?_⟩
           show ah nm (bB n1 x.names)=none
           rw[dP]
           split
           ·rfl
           ·exact HJ.out
          ·rw[if_neg hd];exact⟨x,HX.out,Aa.out,HJ.out⟩
         obtain⟨x3,hx3,Me,-⟩:=hc3
         have Rw:=Lib.hid hx3
         have Mf:=Lib.hid Me
         have ug:(bL x3).length<maxLen:=by
          have h1:=(HT.out.torz.cut (n:=n1) KL.out F4.out)
          have h2:x3.names.length≤x.names.length:=by
           have h3:=Rw.out
           unfold ak at h3
           rw[aS,HX.out]at h3
           split at h3
           ·simp only[Option.map_some,Option.some.injEq]at h3
            rw[←h3];exact List.length_filter_le _ _
           ·simp only[Option.some.injEq]at h3
            rw[h3];exact Nat.le_refl _
          have h4:=HT.out.few HX.out
          unfold bL maxLen;rw[List.length_map];omega
         have FE:=Lib.hid ug
         clear hdp hpn ep hx1 Cn hn1 DY hx3 Me ug
         go_wp2_with (first|(at_lookup;refine aG cK rfl _ _ 110 3 rfl Tryz.underlying110 (Tryz.dL _) rfl lW.out nm rfl j_ ?_;rw[rD.out])|(at_lookup;refine aK aV rfl _ _ 104 107 rfl Tryz.underlying104 (Tryz.aT _) rfl og.out id rfl hok ?_;rw[HG.out]))
         (with_reducible refine(KJ.out w2 HB2.out).mono ?_)
         rintro e w3 ⟨rfl,hb3⟩
         have HB3:=Lib.hid (HB2.out.trans (hb3.mono HB2.out.size))
         clear hb3
         go_wp2_with fail
         (with_reducible refine(NW.out w3 HB3.out).mono ?_)
         rintro e w4 ⟨rfl,hb4⟩
         have dS:=Lib.hid (HB3.out.trans (hb4.mono HB3.out.size))
         clear hb4
         go_wp2_with fail
         (with_reducible refine(WK.out w4 dS.out).mono ?_)
         rintro e w5 ⟨rfl,hb5⟩
         have iQ:=Lib.hid (dS.out.trans (hb5.mono dS.out.size))
         clear hb5
         have CV:=HIT.out w5 iQ.out
         obtain⟨d8,uG⟩:=jN CV KL.out F4.out
         have Rj:=Lib.hid CV
         have Rx:=Lib.hid uG
         clear CV uG
         have Cg:Hid (∀w6,MapAt cK w6 (nb d1) (bB n1 (bL x1))→w5.mapTurned w6 (nb d1)→(aH g D w6 p mb ib nb (ak T d1 n1)∧Keeps (fun b=>g b≠ .none) w5 w6)∧w6.cell? ⟨ib d,7,none⟩=some (.map (some (nb d)))∧MapAt cK w6 (nb d) (bL x3)):=fun w6 hM Oz=>by
          have h3:=Ce Rj.out KL.out F4.out hM Oz
          exact⟨h3,jN h3.1 Rw.out Mf.out⟩
         go_wp2_with (first|(at_delete;refine jq cK rfl _ _ 110 3 rfl Tryz.underlying110 rfl Rx.out n1 rfl Md ?_;intro w6 Uh Ui;obtain⟨Uj,d9,Mg⟩:=Cg.out w6 Uh Ui;have WM:=Lib.hid Uj;have Ry:=Lib.hid Mg;clear Uj Uh Ui Mg)|(at_mapUpdate;refine gM cK rfl _ _ _ 110 3 rfl Tryz.underlying110 rfl Ry.out FE.out nm (.int .i64 id) rfl rfl j_ ?_;intro w7 Uk Ul;have NY:=Lib.hid Uk;have Rz:=Lib.hid Ul;clear Uk Ul))
         go_ret
         rw[HM.out]
         exact DX HH.out iQ.out WM.out Rw.out Mf.out NY.out Rz.out
      ·have hkk:(y.kind==2)=false:=by simpa using hk2
       clear hwk hk2
       cases hj:ah nm x.names with
       |some j=>
        have rD:Hid (ah nm (bL x)=some (.int .i64 j)):=by rw[dA,hj];rfl
        have Ma:Hid ((ah nm x.names).isSome=true):=by rw[hj];exact rfl
        rw[hj]at qo
        clear hj
        by_cases hji:j=id
        ·rw[hji]at rD qo
         clear hji
         have HM:Hid (bg T ls ls'=(0,T)):=by
          unfold bg
          rw[←Tw.out,bT HX.out,Ma.out,qo.out]
          simp only[if_pos,if_neg,and_false,Bool.true_eq_false,if_false]
          first|exact rfl|exact trivial
         go_wp2_with (first|(at_lookup;refine aG cK rfl _ _ 110 3 rfl Tryz.underlying110 (Tryz.dL _) rfl lW.out nm rfl j_ ?_;rw[rD.out])|(at_lookup;refine aK aV rfl _ _ 104 107 rfl Tryz.underlying104 (Tryz.aT _) rfl og.out id rfl hok ?_;rw[HG.out]))
         go_ret
         rw[HM.out]
         exact Turn.same HH.out HB2.out rfl
        ·have hne:(j==id)=false:=by simpa using hji
         have HM:Hid (bg T ls ls'=(21,T)):=OO.out 21 (by rw[qo.out];simp only[if_neg hji]) (by decide)
         clear hji
         go_wp2_with (first|(at_lookup;refine aG cK rfl _ _ 110 3 rfl Tryz.underlying110 (Tryz.dL _) rfl lW.out nm rfl j_ ?_;rw[rD.out])|(at_lookup;refine aK aV rfl _ _ 104 107 rfl Tryz.underlying104 (Tryz.aT _) rfl og.out id rfl hok ?_;rw[HG.out]))
         go_ret
         rw[HM.out]
         exact Turn.same HH.out HB2.out rfl
       |none=>
        have rD:Hid (ah nm (bL x)=none):=by rw[dA,hj];rfl
        have HJ:=Lib.hid hj
        rw[hj]at qo
        clear hj
        have Mc:=mE VT.out.2
        have hdd:=L_.out id
        have NW:=Lib.hid (Za.out id (by rw[HY.out];rfl))
        unfold sI at NW
        generalize gy T 8 id=dd at qo NW hdd
        rw[hl']at qo Mc
        have e1:IntKind.i64.wrap ((n':Int)+(dd:Int))=(n':Int)+(dd:Int):=IntWalk.i64_in _ (by omega)
        by_cases hdp:8<n'+dd
        ·have HM:Hid (bg T ls ls'=(3,T)):=OO.out 3 (by rw[qo.out];simp only[if_pos hdp]) (by decide)
         have hd1:decide ((8:Int)<(n':Int)+(dd:Int))=true:=by simp only[decide_eq_true_eq];omega
         clear hdp
         go_wp2_with (first|(at_lookup;refine aG cK rfl _ _ 110 3 rfl Tryz.underlying110 (Tryz.dL _) rfl lW.out nm rfl j_ ?_;rw[rD.out])|(at_lookup;refine aK aV rfl _ _ 104 107 rfl Tryz.underlying104 (Tryz.aT _) rfl og.out id rfl hok ?_;rw[HG.out]))
         (with_reducible refine(NW.out w2 HB2.out).mono ?_)
         rintro e w4 ⟨rfl,hb4⟩
         have dS:=Lib.hid (HB2.out.trans (hb4.mono HB2.out.size))
         clear hb4
         go_wp2_with fail
         go_ret
         rw[HM.out]
         exact Turn.same HH.out dS.out rfl
        ·have hd1:decide ((8:Int)<(n':Int)+(dd:Int))=false:=by simp only[decide_eq_false_iff_not];omega
         have hpn:ls≠[]:=fun e=>by
          have h1:id=0:=congrArg Prod.fst (HQ.out.trans (by rw[e]<;>exact(rfl:aA T 0 []=(0,0))))
          exact Dt.out h1
         obtain⟨d1,x1,n1,ep,-,hx1,Cn,hn1,DY,-⟩:=bQ HQ.out.symm hpn
         have Md:=Lv (h_ VT.out.1 _ DY)
         have WK:=Lib.hid (Y_.out d1 n1 ep)
         have KL:=Lib.hid hx1
         have F4:=Lib.hid Cn
         have WL:=Lib.hid hn1
         have HM:Hid (bg T ls ls'=(0,setName (ak T d1 n1) d nm id)):=by
          have h0:gV T ls ls'=0:=by rw[qo.out];simp only[if_neg hdp]
          have h1:(ah nm (aJ T d)).isSome=false:=by rw[bT HX.out,HJ.out];rfl
          unfold bg nX
          rw[←Tw.out,←HQ.out,ep,h0]
          simp only[h1,and_self,if_true]
          first|exact rfl|exact trivial
         have hc3:∃x3,ah d (ak T d1 n1)=some x3∧x3.kind=2∧ah nm x3.names=none:=by
          unfold ak
          rw[aS]
          by_cases hd:d=d1
          ·subst hd
           have h2:=KL.out
           rw[HX.out]at h2;cases h2
           rw[if_pos rfl,HX.out]
           refine⟨_,rfl,Aa.out,?_⟩
           show ah nm (bB n1 x.names)=none
           rw[dP]
           split
           ·rfl
           ·exact HJ.out
          ·rw[if_neg hd];exact⟨x,HX.out,Aa.out,HJ.out⟩
         obtain⟨x3,hx3,Me,-⟩:=hc3
         have Rw:=Lib.hid hx3
         have Mf:=Lib.hid Me
         have ug:(bL x3).length<maxLen:=by
          have h1:=(HT.out.torz.cut (n:=n1) KL.out F4.out)
          have h2:x3.names.length≤x.names.length:=by
           have h3:=Rw.out
           unfold ak at h3
           rw[aS,HX.out]at h3
           split at h3
           ·simp only[Option.map_some,Option.some.injEq]at h3
            rw[←h3];exact List.length_filter_le _ _
           ·simp only[Option.some.injEq]at h3
            rw[h3];exact Nat.le_refl _
          have h4:=HT.out.few HX.out
          unfold bL maxLen;rw[List.length_map];omega
         have FE:=Lib.hid ug
         clear hdp hpn ep hx1 Cn hn1 DY hx3 Me ug
         go_wp2_with (first|(at_lookup;refine aG cK rfl _ _ 110 3 rfl Tryz.underlying110 (Tryz.dL _) rfl lW.out nm rfl j_ ?_;rw[rD.out])|(at_lookup;refine aK aV rfl _ _ 104 107 rfl Tryz.underlying104 (Tryz.aT _) rfl og.out id rfl hok ?_;rw[HG.out]))
         (with_reducible refine(NW.out w2 HB2.out).mono ?_)
         rintro e w4 ⟨rfl,hb4⟩
         have dS:=Lib.hid (HB2.out.trans (hb4.mono HB2.out.size))
         clear hb4
         go_wp2_with fail
         (with_reducible refine(WK.out w4 dS.out).mono ?_)
         rintro e w5 ⟨rfl,hb5⟩
         have iQ:=Lib.hid (dS.out.trans (hb5.mono dS.out.size))
         clear hb5
         have CV:=HIT.out w5 iQ.out
         obtain⟨d8,uG⟩:=jN CV KL.out F4.out
         have Rj:=Lib.hid CV
         have Rx:=Lib.hid uG
         clear CV uG
         have Cg:Hid (∀w6,MapAt cK w6 (nb d1) (bB n1 (bL x1))→w5.mapTurned w6 (nb d1)→(aH g D w6 p mb ib nb (ak T d1 n1)∧Keeps (fun b=>g b≠ .none) w5 w6)∧w6.cell? ⟨ib d,7,none⟩=some (.map (some (nb d)))∧MapAt cK w6 (nb d) (bL x3)):=fun w6 hM Oz=>by
          have h3:=Ce Rj.out KL.out F4.out hM Oz
          exact⟨h3,jN h3.1 Rw.out Mf.out⟩
         go_wp2_with (first|(at_delete;refine jq cK rfl _ _ 110 3 rfl Tryz.underlying110 rfl Rx.out n1 rfl Md ?_;intro w6 Uh Ui;obtain⟨Uj,d9,Mg⟩:=Cg.out w6 Uh Ui;have WM:=Lib.hid Uj;have Ry:=Lib.hid Mg;clear Uj Uh Ui Mg)|(at_mapUpdate;refine gM cK rfl _ _ _ 110 3 rfl Tryz.underlying110 rfl Ry.out FE.out nm (.int .i64 id) rfl rfl j_ ?_;intro w7 Uk Ul;have NY:=Lib.hid Uk;have Rz:=Lib.hid Ul;clear Uk Ul))
         go_ret
         rw[HM.out]
         exact DX HH.out iQ.out WM.out Rw.out Mf.out NY.out Rz.out
    ·have HM:Hid (bg T ls ls'=(z,T)):=OO.out z (by rw[CS.out,if_neg (by simp),if_neg (by simp),if_neg Dt.out,if_pos hz]) hz
     have hne:(z==0)=false:=by simpa using hz
     have hne2:(z !=0)=true:=by simpa using hz
     rw[if_neg hz]
     clear hz
     go_wp2_with fail
     go_ret
     rw[HM.out]
     exact Turn.same HH.out HB2.out rfl
  ·have HM:Hid (bg T ls ls'=(e0,T)):=OO.out e0 (by rw[CS.out,if_neg (by simp),if_pos he]) he
   have hne:(e0==0)=false:=by simpa using he
   have hne2:(e0 !=0)=true:=by simpa using he
   clear he
   go_wp2_with fail
   go_ret
   rw[HM.out]
   exact Turn.same HH.out HB1.out rfl
 ·have HM:Hid (bg T ls ls'=(f,T)):=OO.out f (by rw[CS.out,if_pos hf]) hf
  have hne:(f==0)=false:=by simpa using hf
  have hne2:(f !=0)=true:=by simpa using hf
  clear hf
  go_wp2_with fail
  go_ret
  rw[HM.out]
  exact Turn.same HH.out HB1.out rfl
end
end Go.Proofs.YtjnhnlabpccgjaaGreat
