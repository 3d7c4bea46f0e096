/- The reference: Drop. The reference: deep. The reference: onto. -/
import Derived.Test.YtohpcppeajijnaaGreatM25
import Derived.Deep.QuietTactic
import Derived.BigQuiet
namespace Go.Proofs.YtohpcppeajijnaaGreat
open Go.ChangeShapes Go.WideShapes Go.ChangeAt Go.RowKit
set_option linter.unusedVariables false
set_option linter.unusedSimpArgs false
theorem zm {T:aF} {id v:Int} (h:kS T id=v) (hv:v≠0):dM T id=(v,T):=by
 unfold dM
 rw[h,if_neg hv]
def jU (E:List jc) (id:Int) (m:Nat):List jc:=E.take m++(E.drop m).filter fun e=> !decide (e.2.2=id)
theorem FT {E:List jc} {id:Int} {m:Nat} {e:jc} (hx:E[m]? =some e):(jU E id (m+1))[m]? =some e:=by
 obtain⟨hm,h⟩:=List.getElem?_eq_some_iff.1 hx
 unfold jU
 rw[List.getElem?_append_left (by rw[List.length_take];omega),List.getElem?_take,if_pos (by omega)]
 exact hx
theorem FU {E:List jc} {id:Int} {m:Nat} (hm:m≤E.length):m≤(jU E id m).length∧(jU E id m).length≤E.length:=by
 unfold jU
 have:=List.length_filter_le (fun e:jc=> !decide (e.2.2=id)) (E.drop m)
 rw[List.length_drop]at this
 rw[List.length_append,List.length_take]
 omega
theorem FV {E:List jc} {id:Int} {m:Nat} {e:jc} (hx:E[m]? =some e) (he:e.2.2=id):(jU E id (m+1)).take m++(jU E id (m+1)).drop (m+1)=jU E id m:=by
 obtain⟨hm,h⟩:=List.getElem?_eq_some_iff.1 hx
 unfold jU
 have hl:(E.take (m+1)).length=m+1:=by rw[List.length_take];omega
 rw[List.take_append_of_le_length (by omega),List.take_take,Nat.min_eq_left (by omega),List.drop_append_of_le_length (by omega),List.drop_of_length_le (by omega),List.nil_append]
 congr 1
 rw[List.drop_eq_getElem_cons hm,h,List.filter_cons]
 simp[he]
theorem IY {E:List jc} {id:Int} {m:Nat} {e:jc} (hx:E[m]? =some e) (he:e.2.2≠id):jU E id (m+1)=jU E id m:=by
 obtain⟨hm,h⟩:=List.getElem?_eq_some_iff.1 hx
 unfold jU
 rw[List.take_succ_eq_append_getElem hm,h,List.drop_eq_getElem_cons hm,h,List.filter_cons]
 simp[he]
section
variable {F:Nat→Prop} {r:Nat} {T:aF}
set_option maxRecDepth 100000 in
set_option maxHeartbeats 8000000 in
theorem zn (id:Int) (w:World) (h:gX F w r T) (hT:dG T):
  Calls Tryz.prog 30 #[ptr r, .int .i64 id] w (bC F w r (dM T id).2 (.int .i64 (dM T id).1)):=by
 have HF:=Lib.hid (nI id w h hT.tovw)
 have hr0:=h.low r h.own
 have HH:=Lib.hid h
 by_cases h0:bL T id=0
 ·obtain⟨x,hx,hk⟩:∃x,aj id T=some x∧x.kind≠2:=by
   unfold bL at h0
   cases hx:aj id T with
   |none=>rw[hx]at h0;cases h0
   |some x=>
    rw[hx]at h0
    exact⟨x,rfl,fun hk=>by simp[hk]at h0⟩
  obtain⟨k,hi,hq⟩:=iM hT.sorted hx
  have hrf:Bw T id=k:=by unfold Bw;rw[if_pos h0];exact hi
  rw[hrf,h0]at HF
  obtain⟨bN,oN,cN,hc0,hO,hbw,hkl,c0,c1,c2,c3,c4,c5⟩:=h.node hq
  simp only at c0 c1 c2 c3 c4 c5
  have i0:(0:Int)≤k:=by omega
  have hlen:=hT.len
  have zk:=Lib.hid hq
  have HS:=Lib.hid hT.sorted
  have hr1:=hr0
  have uO:=Lib.hid (hT.each id x hx)
  have HX:=Lib.hid hx
  have hkx:=hk
  have rZ:=gQ hT
  have Xn:=Lib.hid hT
  have JV:=Lib.hid (rfl:T.length=T.length)
  obtain⟨aE,cE,p2,-,-,-⟩:=h.ent
  obtain⟨n,hn⟩:∃n,n=(aV T).length:=⟨_,rfl⟩
  rw[←hn]at p2 rZ
  have gY:=Lib.hid hn
  obtain⟨tl,htl⟩:∃tl,tl=T.length:=⟨_,rfl⟩
  rw[←htl]at hc0 hkl hlen
  have i1:(k:Int)<tl:=by omega
  have he:kS T id=if x.closed then 27 else 0:=by
   unfold kS
   rw[hx]
   simp only[if_neg hk]
  clear hx hk h hT h0 hn htl hi hq hrf hO
  cases hcl:x.closed with
  |true=>
   rw[hcl]at c5
   have HQ:=Lib.hid (zm (he.trans (if_pos hcl)) (by omega))
   clear hcl he
   go_enter Tryz.func30,Tryz.ntmps30
   go_wp2_with fail
   (with_reducible refine HF.out.mono ?_)
   rintro e w1 ⟨rfl,rfl⟩
   go_wp2_with fail
   go_ret
   exact bC.no HH.out (Below.refl _ _) HQ.out
  |false=>
   rw[hcl]at c5
   have HQ:Hid (dM T id=(0,bg id (eF T id))):=by
    show dM T id=_
    unfold dM
    rw[he,if_neg (by rw[hcl];decide)]
    rfl
   clear hcl he
   have e1:IntKind.i64.wrap ((n:Int)-1)=(n:Int)-1:=IntWalk.i64_in _ (by omega)
   go_enter Tryz.func30,Tryz.ntmps30
   go_wp2_with fail
   (with_reducible refine HF.out.mono ?_)
   rintro e w1 ⟨rfl,rfl⟩
   go_wp2_with fail
   go_loopw [7] (fun i wr=>∃m:Nat,m≤n∧i= .int .i64 ((m:Int)-1)∧dh F w r T (T.map fun q=>q.2.b) (jU (aV T) id m) (.tuple #[]) (.returned (.tuple #[])) wr) (fun i _=>(intOf i+1).toNat)
   case atStart=>
    refine⟨n,Nat.le_refl _,rfl,?_⟩
    have e2:jU (aV T) id n=aV T:=by
     unfold jU
     have:=gY.out
     rw[List.take_of_length_le (by omega),List.drop_of_length_le (by omega)]
     simp
    rw[e2]
    exact dh.same HH.out (Below.refl _ _)
   case round=>
    obtain⟨m,hm,rfl,hTr⟩:=hrel
    have Qd:=Lib.hid hTr
    clear hTr
    cases m with
    |zero=>
     have HR:Hid (bC F w r (eF T id) (.tuple #[]) (.returned (.tuple #[])) wr):=by
      refine⟨rfl,Qd.out.2.1,?_⟩
      have h1:=Qd.out.2.2.names (T':=eF T id) (by unfold eF;rw[List.length_map]) (Bv id T)
      rw[show jU (aV T) id 0=(aV T).filter fun e=> !decide (e.2.2=id)by unfold jU;simp,←wI,←Dk id T]at h1
      exact h1
     have hP:=Xn.out.tovw.strip id
     have AA:=Lib.hid (pW id (fB id x) wr HR.out.2.2 hP.sorted hP.len (by rw[jw,HX.out];rfl) (by
      unfold fB
      simp only
      rw[uO.out.file (uO.out.kind.resolve_right hkx)]
      rfl))
     clear hP
     rw[show((0:Nat):Int)-1= -1 by rfl]
     go_wp2_with fail
     (with_reducible refine AA.out.mono ?_)
     rintro e w4 IX
     have rJ:=Lib.hid IX
     obtain rfl:=IX.1
     clear IX
     go_wp2_with fail
     go_ret
     rw[HQ.out]
     exact(HR.out.trans HH.out.low rJ.out).val _
    |succ j=>
     have hjn:j<(aV T).length:=by have:=gY.out;omega
     have hx:(aV T)[j]? =some ((aV T)[j]'hjn):=List.getElem?_eq_getElem _
     obtain⟨q,hqe⟩:∃q,q=(aV T)[j]'hjn:=⟨_,rfl⟩
     rw[←hqe]at hx
     have Mt:=Lib.hid hx
     have hR:=Qd.out.2.2
     have hrr:r<wr.heap.size:=hR.low r hR.own
     obtain⟨aR,cR,s2,-,hrow,-⟩:=hR.ent
     have hdl:=FU (E:=aV T) (id:=id) (m:=j+1) (by omega)
     have Ab:=Lib.hid (EF j wr hR (by omega) (by have:=gY.out;omega))
     rw[show((j+1:Nat):Int)-1=(j:Int)by omega]
     obtain⟨b,off,rfl,hF,hb,hi,hc⟩:=hrow.wide iD rfl (FT hx) (by omega)
     have d2:wr.cell? ⟨b,off+j*3+2,none⟩=some (.int .i64 q.2.2):=hc 2 (by omega)
     obtain⟨dl,NR⟩:∃dl,dl=(jU (aV T) id (j+1)).length:=⟨_,rfl⟩
     rw[←NR]at s2 hdl hi
     have j0:(0:Int)≤j:=by omega
     have j1:(j:Int)<dl:=by omega
     have e2:IntKind.i64.wrap ((j:Int)-1)=(j:Int)-1:=IntWalk.i64_in _ (by omega)
     clear hx hqe hR hrow hc NR
     by_cases hp:q.2.2=id
     ·have hpp:(q.2.2==id)=true:=by simpa using hp
      have HP:=Lib.hid (FV Mt.out hp)
      clear hp
      go_wp2_with fail
      (with_reducible refine Ab.out.mono ?_)
      rintro e w4 IX
      have rJ:=Lib.hid IX
      obtain rfl:=IX.1
      clear IX
      go_wp2_with fail
      go_roundw
      case rel=>exact⟨j,by omega,rfl,by rw[←HP.out];exact Qd.out.trans HH.out.low rJ.out⟩
      case measure=>simp[intOf]
     ·have hpp:(q.2.2==id)=false:=by simpa using hp
      have HP:=Lib.hid (IY Mt.out hp)
      clear hp
      go_wp2_with fail
      go_roundw
      case rel=>exact⟨j,by omega,rfl,by rw[←HP.out];exact Qd.out⟩
      case measure=>simp[intOf]
 ·have HQ:=Lib.hid (zm (T:=T) (id:=id) (v:=bL T id) (by
   unfold kS bL at*
   cases hx:aj id T with
   |none=>rfl
   |some x=>
    rw[hx]at h0
    by_cases hk:x.kind=2
    ·simp[hk]
    ·exact absurd (by simp[hk]) h0) h0)
  generalize bL T id=f at*
  have hne:(f==0)=false:=by simpa using h0
  have hne2:(f !=0)=true:=by simpa using h0
  clear h hT h0
  go_enter Tryz.func30,Tryz.ntmps30
  go_wp2_with fail
  (with_reducible refine HF.out.mono ?_)
  rintro e w1 ⟨rfl,rfl⟩
  go_wp2_with fail
  go_ret
  exact bC.no HH.out (Below.refl _ _) HQ.out
end
abbrev BK (r:Nat) (w:World) (id:Int) (n:Nat):Prop:=Calls Tryz.prog 146 #[ptr r, .int .i64 id] w fun e w'=>e= .returned (.int .i64 n)∧Below w.heap.size w w'
def sO (E:List jc) (id:Int) (d:Int→Nat) (M k m:Nat):Prop:=m≤M∧∀e∈E.take k,e.1=id→1+d e.2.2≤m
theorem sO.step {E:List jc} {id:Int} {d:Int→Nat} {M k m m':Nat} {e:jc} (h:sO E id d M k m) (hx:E[k]? =some e) (hm:m≤m') (hM:m'≤M) (he:e.1=id→1+d e.2.2≤m'):sO E id d M (k+1) m':=by
 obtain⟨hk,h2⟩:=List.getElem?_eq_some_iff.1 hx
 refine⟨hM,fun y hy hyi=> ?_⟩
 rw[List.take_succ_eq_append_getElem hk,h2]at hy
 rcases List.mem_append.1 hy with h3|h3
 ·exact Nat.le_trans (h.2 y h3 hyi) hm
 ·simp only[List.mem_singleton]at h3
  subst h3
  exact he hyi
section
variable {F:Nat→Prop} {r:Nat} {T:aF}
set_option maxRecDepth 100000 in
set_option maxHeartbeats 8000000 in
theorem wS (id:Int) (x:bF) (d:Int→Nat) (w:World) (h:gX F w r T) (hT:dG T) (hx:aj id T=some x) (hd:∀e∈x.names,d e.2≤64) (hd0:∀e∈x.names,bq T e.2≠2→d e.2=0)
  (hc:∀e∈x.names,bq T e.2=2→∀w1,Below w.heap.size w w1→BK r w1 e.2 (d e.2)):BK r w id (maxD d x.names):=by
 have hE:=gQ hT
 have hr0:=h.low r h.own
 have HH:=Lib.hid (fun w1 (hb:Below w.heap.size w w1)=>h.below hb (Nat.le_refl _))
 have HT:=Lib.hid hT
 have HX:=Lib.hid hx
 have HD:=Lib.hid hd
 have HD0:=Lib.hid hd0
 have HC:=Lib.hid hc
 obtain⟨n,hn⟩:∃n,n=(aV T).length:=⟨_,rfl⟩
 rw[←hn]at hE
 have HL:=Lib.hid hn
 have hmd:maxD d x.names≤65:=maxD_le d fun e he=>by have:=hd e he;omega
 obtain⟨M,hM⟩:∃M,M=maxD d x.names:=⟨_,rfl⟩
 rw[←hM]at hmd⊢
 have HM:=Lib.hid hM
 clear h hT hx hd hd0 hc hn hM
 unfold BK
 go_enter Tryz.func146,Tryz.ntmps146
 go_wp2_with fail
 go_loopw [5,6] (fun v i wr=>∃k m:Nat,k≤n∧i= .int .i64 k∧v= .int .i64 m∧sO (aV T) id d M k m∧Below w.heap.size w wr) (fun _ i _=>n-(intOf i).toNat)
 case atStart=>exact⟨0,0,by omega,rfl,rfl,⟨Nat.zero_le _,by simp⟩,Below.refl _ _⟩
 case round=>
  obtain⟨k,m,hk,rfl,rfl,hrel,hB⟩:=hrel
  have HR:=Lib.hid hrel
  have HB:=Lib.hid hB
  have Sy:=hrel.1
  have hs:=hB.size
  obtain⟨aE,cE,s2,-,hrow,-⟩:=(HH.out wr hB).ent
  rw[←HL.out]at s2 hrow
  have hrr:r<wr.heap.size:=by omega
  clear hrel hB
  by_cases hlt:k<n
  ·have hkn:k<(aV T).length:=by have:=HL.out;omega
   have hx:(aV T)[k]? =some ((aV T)[k]'hkn):=List.getElem?_eq_getElem _
   obtain⟨q,hqe⟩:∃q,q=(aV T)[k]'hkn:=⟨_,rfl⟩
   rw[←hqe]at hx
   have HQ:=Lib.hid hx
   obtain⟨b,off,rfl,hF,hb,hi,hcc⟩:=hrow.wide iD HL.out.symm hx (by omega)
   have c0:wr.cell? ⟨b,off+k*3,none⟩=some (.int .i64 q.1):=hcc 0 (by omega)
   have c2:wr.cell? ⟨b,off+k*3+2,none⟩=some (.int .i64 q.2.2):=hcc 2 (by omega)
   have i0:(0:Int)≤k:=by omega
   have i1:(k:Int)<n:=by omega
   clear hx hqe hrow hcc
   by_cases hp:q.1=id
   ·have hpp:(q.1==id)=true:=by simpa using hp
    have hmem:q.2∈x.names:=by
     obtain⟨z,hz,hm⟩:=(jO HT.out.sorted).1 (List.mem_of_getElem? HQ.out)
     rw[hp,HX.out]at hz
     cases hz
     exact hm
    obtain⟨y,hy⟩:=Option.isSome_iff_exists.1 (HT.out.leads id x HX.out _ hmem).1
    have zT:=Lib.hid (iV q.2.2 wr (HH.out wr HB.out) HT.out.tovw)
    have hnd:iI T q.2.2=jg q.2.2 y:=by unfold iI;rw[hy]
    rw[hnd]at zT
    unfold jg at zT
    have hge:1+d q.2.2≤M:=by rw[HM.out];exact r9 d hmem
    by_cases hk2:y.kind=2
    ·rw[hk2]at zT
     have PU:=Lib.hid (HC.out _ hmem ((bI hy).trans hk2))
     obtain⟨dd,hdd⟩:∃dd,dd=d q.2.2:=⟨_,rfl⟩
     rw[←hdd]at PU hge
     have Qe:=Lib.hid hdd
     have e1:IntKind.i64.wrap (1+(dd:Int))=1+(dd:Int):=IntWalk.i64_in _ (by omega)
     clear hp hnd hy hk2 hmem hdd
     by_cases hgt:m<1+dd
     ·have hg2:decide ((m:Int)<1+(dd:Int))=true:=by simp;omega
      go_wp2_with fail
      (with_reducible refine zT.out.mono ?_)
      rintro e w3 ⟨rfl,hb3⟩
      have HB3:=Lib.hid (HB.out.trans (hb3.mono hs))
      have hs3:=hb3.size
      have s2':w3.cell? ⟨r,2,none⟩=some (.slice (some ⟨b,off,none⟩) n cE):=(hb3.cell (p:=⟨r,2,none⟩) hrr).trans s2
      have c2':w3.cell? ⟨b,off+k*3+2,none⟩=some (.int .i64 q.2.2):=(hb3.cell (p:=⟨b,off+k*3+2,none⟩) hb).trans c2
      have hr3:r<w3.heap.size:=by omega
      have Sz:b<w3.heap.size:=by omega
      clear hb3 s2 c2 c0
      go_wp2_with fail
      (with_reducible refine Calls.mono (PU.out _ (HB3.out.trans ((wall w3 _).mono HB3.out.size))) ?_)
      rintro e w4 ⟨rfl,hb4⟩
      have dX:=Lib.hid ((HB3.out.trans ((wall w3 _).mono HB3.out.size)).trans (hb4.mono (by simp;omega)))
      clear hb4
      go_wp2_with fail
      go_roundw
      case rel=>exact⟨k+1,1+dd,by omega,by go_num,by go_num,HR.out.step HQ.out (by omega) (by omega) (fun _=>by rw[Qe.out];exact Nat.le_refl _),dX.out⟩
      case measure=>simp[intOf];omega
     ·have hg2:decide ((m:Int)<1+(dd:Int))=false:=by simp;omega
      go_wp2_with fail
      (with_reducible refine zT.out.mono ?_)
      rintro e w3 ⟨rfl,hb3⟩
      have HB3:=Lib.hid (HB.out.trans (hb3.mono hs))
      have hs3:=hb3.size
      have s2':w3.cell? ⟨r,2,none⟩=some (.slice (some ⟨b,off,none⟩) n cE):=(hb3.cell (p:=⟨r,2,none⟩) hrr).trans s2
      have c2':w3.cell? ⟨b,off+k*3+2,none⟩=some (.int .i64 q.2.2):=(hb3.cell (p:=⟨b,off+k*3+2,none⟩) hb).trans c2
      have hr3:r<w3.heap.size:=by omega
      have Sz:b<w3.heap.size:=by omega
      clear hb3 s2 c2 c0
      go_wp2_with fail
      (with_reducible refine Calls.mono (PU.out _ (HB3.out.trans ((wall w3 _).mono HB3.out.size))) ?_)
      rintro e w4 ⟨rfl,hb4⟩
      have dX:=Lib.hid ((HB3.out.trans ((wall w3 _).mono HB3.out.size)).trans (hb4.mono (by simp;omega)))
      clear hb4
      go_wp2_with fail
      go_roundw
      case rel=>exact⟨k+1,m,by omega,by go_num,rfl,HR.out.step HQ.out (Nat.le_refl _) Sy (fun _=>by rw[←Qe.out];omega),dX.out⟩
      case measure=>simp[intOf];omega
    ·have e2:(y.kind==2)=false:=by simpa using hk2
     have hd1:d q.2.2=0:=HD0.out _ hmem (by rw[bI hy];exact hk2)
     rw[hd1]at hge
     have Qe:=Lib.hid hd1
     clear hp hnd hy hk2 hmem hd1
     by_cases hgt:m<1
     ·have hg2:decide ((m:Int)<1)=true:=by simp;omega
      go_wp2_with fail
      (with_reducible refine zT.out.mono ?_)
      rintro e w3 ⟨rfl,hb3⟩
      have HB3:=Lib.hid (HB.out.trans (hb3.mono hs))
      clear hb3
      go_wp2_with fail
      go_roundw
      case rel=>exact⟨k+1,1,by omega,by go_num,rfl,HR.out.step HQ.out (by omega) (by omega) (fun _=>by rw[Qe.out];exact Nat.le_refl _),HB3.out.trans ((wall w3 _).mono HB3.out.size)⟩
      case measure=>simp[intOf];omega
     ·have hg2:decide ((m:Int)<1)=false:=by simp;omega
      go_wp2_with fail
      (with_reducible refine zT.out.mono ?_)
      rintro e w3 ⟨rfl,hb3⟩
      have HB3:=Lib.hid (HB.out.trans (hb3.mono hs))
      clear hb3
      go_wp2_with fail
      go_roundw
      case rel=>exact⟨k+1,m,by omega,by go_num,rfl,HR.out.step HQ.out (Nat.le_refl _) Sy (fun _=>by rw[Qe.out];omega),HB3.out.trans ((wall w3 _).mono HB3.out.size)⟩
      case measure=>simp[intOf];omega
   ·have hpp:(q.1==id)=false:=by simpa using hp
    have HP:=Lib.hid hp
    clear hp
    go_wp2
    go_roundw
    case rel=>exact⟨k+1,m,by omega,by go_num,rfl,HR.out.step HQ.out (Nat.le_refl _) Sy (fun h=>absurd h HP.out),HB.out⟩
    case measure=>simp[intOf];omega
  ·go_wp2
   go_ret
   refine⟨fI ?_,HB.out⟩
   have:M≤m:=by
    rw[HM.out]
    refine maxD_le d fun e he=>HR.out.2 (id,e.1,e.2) ?_ rfl
    rw[List.take_of_length_le (by have:=HL.out;omega)]
    exact(jO HT.out.sorted).2 ⟨x,HX.out,he⟩
   omega
theorem wT {T:aF} (hT:dG T) {id:Int} (hk:bq T id≠2):∀n,fV T n id=0
 |0=>rfl
 |n+1=>by
  show maxD (fV T n) (aO T id)=0
  unfold aO bq at*
  cases hx:aj id T with
  |none=>rfl
  |some x=>
   rw[hx]at hk
   simp only at hk⊢
   rw[(hT.each id x hx).file ((hT.each id x hx).kind.resolve_right hk)]
   rfl
theorem zo (hT:dG T):∀(n:Nat) (id:Int) (w:World),gX F w r T→(aj id T).isSome=true→t_ T n id→n≤64→BK r w id (fV T n id)
 |0,id,w,h,hi,hs,hn=>by
  obtain⟨x,hx⟩:=Option.isSome_iff_exists.1 hi
  have e:x.names=[]:=by have h1:aO T id=[]:=hs;unfold aO at h1;rw[hx]at h1;exact h1
  have:=wS id x (fun _=>0) w h hT hx (fun _ _=>Nat.zero_le _) (fun _ _ _=>rfl) (fun y he=>by rw[e]at he;cases he)
  rw[e]at this
  exact this
 |n+1,id,w,h,hi,hs,hn=>by
  obtain⟨x,hx⟩:=Option.isSome_iff_exists.1 hi
  have e:aO T id=x.names:=by unfold aO;rw[hx]
  have hs':∀e∈x.names,t_ T n e.2:=fun y hy=>hs y (by rw[e];exact hy)
  have:=wS id x (fV T n) w h hT hx (fun y hy=>Nat.le_trans (hs' y hy).le (by omega)) (fun y hy hk=>wT hT hk n) (fun y hy _ w1 hb=>
   zo hT n y.2 w1 (h.below hb (Nat.le_refl _)) (hT.leads id x hx y hy).1 (hs' y hy) (by omega))
  rw[←e]at this
  exact this
end
theorem pX {w:World} (n:Nat):Below w.heap.size w (w.drewN n):=⟨rfl,rfl,rfl,Nat.le_refl _,fun _ _=>rfl⟩
theorem BL {P:Program} {f:FuncId} {args:Array Value} {w:World} {v:Value} (h:Calls P f args w fun e w'=>e= .returned v∧w=w'):Calls P f args w fun e w'=>e= .returned v∧w'=w:=h.mono fun e w' ⟨h1,h2⟩=>⟨h1,h2.symm⟩
section
variable {F:Nat→Prop} {r:Nat} {T:aF}
set_option maxHeartbeats 2000000 in
theorem zq (d:Int) (nm:Nm) (id j:Int) (x:bF) (w:World) (h:gX F w r T) (hT:dG T) (hx:aj d T=some x) (hn:aj nm x.names=some j):
  Calls Tryz.prog 145 #[ptr r, .int .i64 d, .string (strOf nm), .int .i64 id] w fun e w'=>e= .returned (.int .i64 (if j=id then 0 else 21))∧Below w.heap.size w w':=by
 have hE:(aV T).length≤1000000:=by have:=gQ hT;omega
 have H5:=Lib.hid (fun m=>iN d nm (w.drewN m) (h.below (pX m) (Nat.le_refl _)) hE)
 obtain⟨k,hk,he⟩:=nH hT.tovw hx hn
 rw[hk]at H5
 have hr0:=h.low r h.own
 obtain⟨aE,cE,s2,-,hrow,-⟩:=h.ent
 obtain⟨b,off,rfl,hF,hb,hi,hcc⟩:=hrow.wide iD rfl he (by omega)
 have c2:w.cell? ⟨b,off+k*3+2,none⟩=some (.int .i64 j):=hcc 2 (by omega)
 have i0:(0:Int)≤k:=by omega
 have i1:(k:Int)<(aV T).length:=by omega
 generalize (aV T).length=n at*
 clear h hT hx hn hk he hrow hcc hE
 by_cases hj:j=id
 ·have e1:(j==id)=true:=by simpa using hj
  rw[if_pos hj]
  clear hj
  go_enter Tryz.func145,Tryz.ntmps145
  go_wp2_with fail
  go_quiet ((go_at_call 63;exact Calls.quiet_of_same (BL (H5.out _))))
  go_wp2_with fail
  go_ret
  exact⟨rfl,pX _⟩
 ·have e1:(j==id)=false:=by simpa using hj
  rw[if_neg hj]
  clear hj
  go_enter Tryz.func145,Tryz.ntmps145
  go_wp2_with fail
  go_quiet ((go_at_call 63;exact Calls.quiet_of_same (BL (H5.out _))))
  go_wp2_with fail
  go_ret
  exact⟨rfl,pX _⟩
end
end Go.Proofs.YtohpcppeajijnaaGreat
