/- The reference: Drop. The reference: deep. The reference: onto. The reference: Rename. -/
import Derived.Test.YtohpcppeajijnaaGreatM32
import Derived.Deep.QuietTactic
import Derived.BigQuiet
namespace Go.Proofs.YtohpcppeajijnaaGreat
open Go.ChangeShapes Go.WideShapes Go.ChangeAt Go.RowKit
set_option linter.unusedVariables false
set_option linter.unusedSimpArgs false
theorem yH {T:aI} {id v:Int} (h:gu T id=v) (hv:v≠0):eu T id=(v,T):=by
 unfold eu
 rw[h,if_neg hv]
def jB (E:List iw) (id:Int) (m:Nat):List iw:=E.take m++(E.drop m).filter fun e=> !decide (e.2.2=id)
theorem F8 {E:List iw} {id:Int} {m:Nat} {e:iw} (hx:E[m]? =some e):(jB E id (m+1))[m]? =some e:=by
 obtain⟨hm,h⟩:=List.getElem?_eq_some_iff.1 hx
 unfold jB
 rw[List.getElem?_append_left (by rw[List.length_take];omega),List.getElem?_take,if_pos (by omega)]
 exact hx
theorem F9 {E:List iw} {id:Int} {m:Nat} (hm:m≤E.length):m≤(jB E id m).length∧(jB E id m).length≤E.length:=by
 unfold jB
 have:=List.length_filter_le (fun e:iw=> !decide (e.2.2=id)) (E.drop m)
 rw[List.length_drop]at this
 rw[List.length_append,List.length_take]
 omega
theorem Ga {E:List iw} {id:Int} {m:Nat} {e:iw} (hx:E[m]? =some e) (he:e.2.2=id):(jB E id (m+1)).take m++(jB E id (m+1)).drop (m+1)=jB E id m:=by
 obtain⟨hm,h⟩:=List.getElem?_eq_some_iff.1 hx
 unfold jB
 have hl:(E.take (m+1)).length=m+1:=by rw[List.length_take];omega
 rw[List.take_append_of_le_length (by omega),List.take_take,Nat.min_eq_left (by omega),List.drop_append_of_le_length (by omega),List.drop_of_length_le (by omega),List.nil_append]
 congr 1
 rw[List.drop_eq_getElem_cons hm,h,List.filter_cons]
 simp[he]
theorem Kl {E:List iw} {id:Int} {m:Nat} {e:iw} (hx:E[m]? =some e) (he:e.2.2≠id):jB E id (m+1)=jB E id m:=by
 obtain⟨hm,h⟩:=List.getElem?_eq_some_iff.1 hx
 unfold jB
 rw[List.take_succ_eq_append_getElem hm,h,List.drop_eq_getElem_cons hm,h,List.filter_cons]
 simp[he]
section
variable {F:Nat→Prop} {r:Nat} {T:aI}
set_option maxRecDepth 100000 in
set_option maxHeartbeats 8000000 in
theorem Gb (id:Int) (w:World) (h:jr F w r T) (hT:dR T):
  Calls Tryz.prog 30 #[ptr r, .int .i64 id] w (dJ F w r (eu T id).2 (.int .i64 (eu T id).1)):=by
 have HF:=Lib.hid (sS id w h hT.touK)
 have hr0:=h.low r h.own
 have HH:=Lib.hid h
 by_cases h0:cK T id=0
 ·obtain⟨x,hx,hk⟩:∃x,aF id T=some x∧x.kind≠2:=by
   unfold cK at h0
   cases hx:aF id T with
   |none=>rw[hx]at h0;cases h0
   |some x=>
    rw[hx]at h0
    exact⟨x,rfl,fun hk=>by simp[hk]at h0⟩
  obtain⟨k,hi,hq⟩:=jw hT.sorted hx
  have hrf:FY T id=k:=by unfold FY;rw[if_pos h0];exact hi
  rw[hrf,h0]at HF
  obtain⟨bN,oN,cN,hc0,hO,hbw,hkl,c0,c1,c2,c3,c4,c5⟩:=h.node hq
  simp only at c0 c1 c2 c3 c4 c5
  have i0:(0:Int)≤k:=by omega
  have hlen:=hT.len
  have BR:=Lib.hid hq
  have HS:=Lib.hid hT.sorted
  have hr1:=hr0
  have mg:=Lib.hid (hT.each id x hx)
  have HX:=Lib.hid hx
  have hkx:=hk
  have AB:=lG hT
  have HTT:=Lib.hid hT
  have XO:=Lib.hid (rfl:T.length=T.length)
  obtain⟨aE,cE,p2,-,-,-⟩:=h.ent
  obtain⟨n,hn⟩:∃n,n=(aQ T).length:=⟨_,rfl⟩
  rw[←hn]at p2 AB
  have fV:=Lib.hid hn
  obtain⟨tl,htl⟩:∃tl,tl=T.length:=⟨_,rfl⟩
  rw[←htl]at hc0 hkl hlen
  have i1:(k:Int)<tl:=by omega
  have he:gu T id=if x.closed then 27 else 0:=by
   unfold gu
   rw[hx]
   simp only[if_neg hk]
  clear hx hk h hT h0 hn htl hi hq hrf hO
  cases hcl:x.closed with
  |true=>
   rw[hcl]at c5
   have HQ:=Lib.hid (yH (he.trans (if_pos hcl)) (by omega))
   clear hcl he
   go_enter Tryz.func30,Tryz.ntmps30
   go_wp2_with fail
   (with_reducible refine HF.out.mono ?_)
   rintro e w1 ⟨rfl,rfl⟩
   go_wp2_with fail
   go_ret
   exact dJ.no HH.out (Below.refl _ _) HQ.out
  |false=>
   rw[hcl]at c5
   have HQ:Hid (eu T id=(0,bK id (dW T id))):=by
    show eu T id=_
    unfold eu
    rw[he,if_neg (by rw[hcl];decide)]
    rfl
   clear hcl he
   have e1:IntKind.i64.wrap ((n:Int)-1)=(n:Int)-1:=IntWalk.i64_in _ (by omega)
   go_enter Tryz.func30,Tryz.ntmps30
   go_wp2_with fail
   (with_reducible refine HF.out.mono ?_)
   rintro e w1 ⟨rfl,rfl⟩
   go_wp2_with fail
   go_loopw [7] (fun i wr=>∃m:Nat,m≤n∧i= .int .i64 ((m:Int)-1)∧cu F w r T (T.map fun q=>q.2.b) (jB (aQ T) id m) (.tuple #[]) (.returned (.tuple #[])) wr) (fun i _=>(intOf i+1).toNat)
   case atStart=>
    refine⟨n,Nat.le_refl _,rfl,?_⟩
    have e2:jB (aQ T) id n=aQ T:=by
     unfold jB
     have:=fV.out
     rw[List.take_of_length_le (by omega),List.drop_of_length_le (by omega)]
     simp
    rw[e2]
    exact cu.same HH.out (Below.refl _ _)
   case round=>
    obtain⟨m,hm,rfl,hTr⟩:=hrel
    have TF:=Lib.hid hTr
    clear hTr
    cases m with
    |zero=>
     have HR:Hid (dJ F w r (dW T id) (.tuple #[]) (.returned (.tuple #[])) wr):=by
      refine⟨rfl,TF.out.2.1,?_⟩
      have h1:=TF.out.2.2.names (T':=dW T id) (by unfold dW;rw[List.length_map]) (Bc id T)
      rw[show jB (aQ T) id 0=(aQ T).filter fun e=> !decide (e.2.2=id)by unfold jB;simp,←wD,←Dc id T]at h1
      exact h1
     have hP:=HTT.out.touK.strip id
     have RI:=Lib.hid (rO id (eG id x) wr HR.out.2.2 hP.sorted hP.len (by rw[jI,HX.out];rfl) (by
      unfold eG
      simp only
      rw[mg.out.file (mg.out.kind.resolve_right hkx)]
      rfl))
     clear hP
     rw[show((0:Nat):Int)-1= -1 by rfl]
     go_wp2_with fail
     (with_reducible refine RI.out.mono ?_)
     rintro e w4 EB
     have BL:=Lib.hid EB
     obtain rfl:=EB.1
     clear EB
     go_wp2_with fail
     go_ret
     rw[HQ.out]
     exact(HR.out.trans HH.out.low BL.out).val _
    |succ j=>
     have hjn:j<(aQ T).length:=by have:=fV.out;omega
     have hx:(aQ T)[j]? =some ((aQ T)[j]'hjn):=List.getElem?_eq_getElem _
     obtain⟨q,hqe⟩:∃q,q=(aQ T)[j]'hjn:=⟨_,rfl⟩
     rw[←hqe]at hx
     have LX:=Lib.hid hx
     have hR:=TF.out.2.2
     have hrr:r<wr.heap.size:=hR.low r hR.own
     obtain⟨aR,cR,s2,-,hrow,-⟩:=hR.ent
     have hdl:=F9 (E:=aQ T) (id:=id) (m:=j+1) (by omega)
     have O5:=Lib.hid (Ew j wr hR (by omega) (by have:=fV.out;omega))
     rw[show((j+1:Nat):Int)-1=(j:Int)by omega]
     obtain⟨b,off,rfl,hF,hb,hi,hc⟩:=hrow.wide iL rfl (F8 hx) (by omega)
     have d2:wr.cell? ⟨b,off+j*3+2,none⟩=some (.int .i64 q.2.2):=hc 2 (by omega)
     obtain⟨dl,TG⟩:∃dl,dl=(jB (aQ T) id (j+1)).length:=⟨_,rfl⟩
     rw[←TG]at s2 hdl hi
     have j0:(0:Int)≤j:=by omega
     have j1:(j:Int)<dl:=by omega
     have e2:IntKind.i64.wrap ((j:Int)-1)=(j:Int)-1:=IntWalk.i64_in _ (by omega)
     clear hx hqe hR hrow hc TG
     by_cases hp:q.2.2=id
     ·have hpp:(q.2.2==id)=true:=by simpa using hp
      have HP:=Lib.hid (Ga LX.out hp)
      clear hp
      go_wp2_with fail
      (with_reducible refine O5.out.mono ?_)
      rintro e w4 EB
      have BL:=Lib.hid EB
      obtain rfl:=EB.1
      clear EB
      go_wp2_with fail
      go_roundw
      case rel=>exact⟨j,by omega,rfl,by rw[←HP.out];exact TF.out.trans HH.out.low BL.out⟩
      case measure=>simp[intOf]
     ·have hpp:(q.2.2==id)=false:=by simpa using hp
      have HP:=Lib.hid (Kl LX.out hp)
      clear hp
      go_wp2_with fail
      go_roundw
      case rel=>exact⟨j,by omega,rfl,by rw[←HP.out];exact TF.out⟩
      case measure=>simp[intOf]
 ·have HQ:=Lib.hid (yH (T:=T) (id:=id) (v:=cK T id) (by
   unfold gu cK at*
   cases hx:aF id T with
   |none=>rfl
   |some x=>
    rw[hx]at h0
    by_cases hk:x.kind=2
    ·simp[hk]
    ·exact absurd (by simp[hk]) h0) h0)
  generalize cK T id=f at*
  have hne:(f==0)=false:=by simpa using h0
  have hne2:(f !=0)=true:=by simpa using h0
  clear h hT h0
  go_enter Tryz.func30,Tryz.ntmps30
  go_wp2_with fail
  (with_reducible refine HF.out.mono ?_)
  rintro e w1 ⟨rfl,rfl⟩
  go_wp2_with fail
  go_ret
  exact dJ.no HH.out (Below.refl _ _) HQ.out
end
def wI (E:List iw) (id:Int) (d:Int→Nat) (M k m:Nat):Prop:=m≤M∧∀e∈E.take k,e.1=id→1+d e.2.2≤m
theorem wI.step {E:List iw} {id:Int} {d:Int→Nat} {M k m m':Nat} {e:iw} (h:wI E id d M k m) (hx:E[k]? =some e) (hm:m≤m') (hM:m'≤M) (he:e.1=id→1+d e.2.2≤m'):wI E id d M (k+1) m':=by
 obtain⟨hk,h2⟩:=List.getElem?_eq_some_iff.1 hx
 refine⟨hM,fun y hy hyi=> ?_⟩
 rw[List.take_succ_eq_append_getElem hk,h2]at hy
 rcases List.mem_append.1 hy with h3|h3
 ·exact Nat.le_trans (h.2 y h3 hyi) hm
 ·simp only[List.mem_singleton]at h3
  subst h3
  exact he hyi
section
variable {F:Nat→Prop} {r:Nat} {T:aI}
end
section
variable {F:Nat→Prop} {r:Nat} {T:aI}
end
section
variable {F:Nat→Prop} {r:Nat} {T:aI}
end
end Go.Proofs.YtohpcppeajijnaaGreat
