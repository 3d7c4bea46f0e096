/- tree: settle, Seal, Keep. -/
import Derived.Test.YtjnhnlabpccgjaaGreatM08
namespace Go.Proofs.YtjnhnlabpccgjaaGreat
open Go.ChangeShapes Go.WideShapes Go.ChangeAt Go.RowKit
set_option linter.unusedVariables false
set_option linter.unusedSimpArgs false
section
variable {g:Nat→Own} {D:Nat→Prop} {p mb:Nat} {ib nb:Int→Nat} {T:aA}
theorem MapAt.Ec {P:Program} {K:TypeId} {κ:Type} [DecidableEq κ] {F:vv P K κ} {w:World} {t e:TypeId} (ht:P.underlying t=some (.map K e)) {b:Nat} {l:List (κ×Value)} (hM:MapAt F w b l) (k:κ) (hok:F.ok k):
  ∃w',(∀ty,(Builtin.delete_ #[t,K] ty #[.map (some b),F.val k]).run P w= .ok (.tuple #[]) w')∧MapAt F w' b (bF k l)∧w.mapTurned w' b:=by
 obtain⟨w',hrun,r1,r2⟩:=World.ownsMap.drop hM F.law ht (F.of k hok) 0
 rw[IZ]at r1
 exact⟨w',fun ty=>hrun,MapAt.rT r1,r2⟩
def QW (g:Nat→Own) (D:Nat→Prop) (w:World) (p mb:Nat) (ib nb:Int→Nat) (T':aA) (e:Ending) (w':World):Prop:=
 e= .returned (.tuple #[])∧aH g D w' p mb ib nb T'∧Keeps (fun b=>b=mb) w w'∧w'.heap.size=w.heap.size
set_option maxRecDepth 100000 in
set_option maxHeartbeats 2000000 in
theorem yR (id:Int) {x:bq} (hx:aj id T=some x) (hid:(Lit.int .i64 id).wf=true) (w:World) (h:aH g D w p mb ib nb T):
  Calls Tryz.prog 80 #[ptr p,ptr (ib id)] w (QW g D w p mb ib nb (fG T id)):=by
 obtain⟨hc0,hpw,hmw⟩:=h.cell
 obtain⟨c0,c1,c2,c3,c4,c5,c7,hiw⟩:=(h.item id x hx).cell
 have HH:=Lib.hid h
 have hs:fG T id=if x.links=0∧x.closed=true then bF id T else T:=by unfold fG;rw[hx]
 have HS:=Lib.hid hs
 have HX:=Lib.hid hx
 clear hs hx h c7
 by_cases h0:x.links=0
 ·have e0:(x.links==0)=true:=by simpa using h0
  rw[h0]at c2
  cases hcl:x.closed with
  |true=>
   rw[hcl]at c5
   have HF:Hid (fG T id=bF id T):=HS.out.trans (if_pos ⟨h0,hcl⟩)
   have hst:∃w4,(∀ty,(Builtin.delete_ #[104,3] ty #[.map (some mb), .int .i64 id]).run Tryz.prog w.drew= .ok (.tuple #[]) w4)∧MapAt aW w4 mb (bF id (T.map fun q=>(q.1,ptr (ib q.1))))∧w.drew.mapTurned w4 mb:=
    MapAt.Ec (F:=aW) Tryz.underlying104 (HH.out.map.kept (w':=w.drew) rfl) id hid
   have HST:=Lib.hid hst
   have hne1:p≠mb:=fun e=>by have h1:=HH.out.nS;rw[e,HH.out.iH]at h1;cases h1
   have hne2:ib id≠mb:=fun e=>by have h1:=HH.out.nk id x HX.out;rw[e,HH.out.iH]at h1;cases h1
   have iK:Hid (∀w4,w.drew.mapTurned w4 mb→w4.cell? ⟨p,0,none⟩=some (.map (some mb))∧w4.cell? ⟨ib id,0,none⟩=some (.int .i64 id)):=fun w4 hT=>⟨(World.cell?_of_block (w:=w.drew) (w':=w4) (a:=⟨p,0,none⟩) (bX hT p hpw hne1)).trans hc0,(World.cell?_of_block (w:=w.drew) (w':=w4) (a:=⟨ib id,0,none⟩) (bX hT _ hiw hne2)).trans c0⟩
   clear hst HS h0 hcl e0 hne1 hne2
   go_enter Tryz.func80,Tryz.ntmps80
   go_wp2
   go_region_held3 (fun w'=>w'.cell? ⟨p,0,none⟩=some (.map (some mb))∧w'.cell? ⟨ib id,0,none⟩=some (.int .i64 id)) (first|exact⟨hc0,c0⟩|exact iK.out _ vk) ((first|(obtain⟨w4,BH,CJ,vk⟩:=HST.out;rw[BH];go_simp)))
   have hsz:=iC vk
   have hK:=fT vk
   go_end0
   refine⟨rfl,?_,⟨hK.os,hK.tape,hK.output,hK.size,hK.block⟩,hsz⟩
   rw[HF.out]
   exact(HH.out.below (Below.refl _ _).drew (Nat.le_refl _)).del CJ hK.size (fun b hb X0=>hK.block b hb X0)
  |false=>
   rw[hcl]at c5
   have HF:Hid (fG T id=T):=HS.out.trans (if_neg (fun h=>by rw[hcl]at h;cases h.2))
   clear HS h0 hcl e0
   go_enter Tryz.func80,Tryz.ntmps80
   go_wp2
   go_end0
   exact⟨rfl,by rw[HF.out];exact HH.out,Keeps.refl _ _,rfl⟩
 ·have e0:(x.links==0)=false:=by simpa using h0
  have HF:Hid (fG T id=T):=HS.out.trans (if_neg (fun h=>h0 h.1))
  clear HS h0
  go_enter Tryz.func80,Tryz.ntmps80
  go_wp2
  go_end0
  exact⟨rfl,by rw[HF.out];exact HH.out,Keeps.refl _ _,rfl⟩
end
end Go.Proofs.YtjnhnlabpccgjaaGreat
