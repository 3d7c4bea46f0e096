/- tree -/
import Derived.Test.YtjnhnlabpccgjaaGreatDoorM08
set_option maxRecDepth 100000
set_option maxHeartbeats 64000000
set_option linter.all false
namespace Go.Proofs.YtjnhnlabpccgjaaGreatDoor
open Go.ChangeShapes Go.WideShapes Go.ChangeAt Go.RowKit
section
variable{g:Nat→Own}{D:Nat→Prop}{p mb:Nat}{ib nb:Int→Nat}{T:aA}
theorem MapAt.Jb{P:Program}{K:TypeId}{κ:Type}[DecidableEq κ]{F:zS P K κ}{w:World}{t e:TypeId}(ht:P.underlying t=some (.map K e)){b:Nat}{l:List (κ×Value)}(hM:MapAt F w b l)(k:κ)(hok:F.ok k):
  ∃w',(∀ty,(Builtin.delete_ #[t,K] ty #[.map (some b),F.val k]).run P w= .ok (.tuple #[]) w')∧MapAt F w' b (bP k l)∧w.mapTurned w' b:=by
 obtain⟨w',hrun,r1,r2⟩:=World.ownsMap.drop hM F.law ht (F.of k hok) 0;rw[NW]at r1;exact⟨w',fun ty=>hrun,MapAt.vZ r1,r2⟩
def Xc(g:Nat→Own)(D:Nat→Prop)(w:World)(p mb:Nat)(ib nb:Int→Nat)(T':aA)(e:Ending)(w':World):Prop:=
 e= .returned (.tuple #[])∧aP g D w' p mb ib nb T'∧Keeps (fun b=>b=mb) w w'∧w'.heap.size=w.heap.size
theorem Db(id:Int){x:bJ}(hx:aj id T=some x)(hid:(Lit.int .i64 id).wf=true)(w:World)(h:aP g D w p mb ib nb T):
  Calls Tryz.prog 190 #[ptr p,ptr (ib id)] w (Xc g D w p mb ib nb (gY T id)):=by
 obtain⟨hc0,hpw,hmw⟩:=h.cell;obtain⟨c0,c1,c2,c3,c4,c5,c7,hiw⟩:=(h.item id x hx).cell;have HH:=acr h;have hs:gY T id=if x.links=0∧x.closed=true then bP id T else T:=by unfold gY;rw[hx]
 have HS:=acr hs;have HX:=acr hx;clear hs hx h c7;by_cases h0:x.links=0
 ·have e0:(x.links==0)=true:=by simpa using h0
  rw[h0]at c2;cases hcl:x.closed with
  |true=>
   rw[hcl]at c5;have HF:acs (gY T id=bP id T):=HS.o.trans (if_pos ⟨h0,hcl⟩)
   have hst:∃w4,(∀ty,(Builtin.delete_ #[104,3] ty #[.map (some mb),.int .i64 id]).run Tryz.prog w.drew= .ok (.tuple #[]) w4)∧MapAt bK w4 mb (bP id (T.map fun q=>(q.1,ptr (ib q.1))))∧w.drew.mapTurned w4 mb:=
    MapAt.Jb (F:=bK) Tryz.underlying104 (HH.o.map.kept (w':=w.drew) rfl) id hid
   have HST:=acr hst;have hne1:p≠mb:=fun e=>by have h1:=HH.o.qO;rw[e,HH.o.jQ]at h1;cases h1
   have hne2:ib id≠mb:=fun e=>by have h1:=HH.o.qg id x HX.o;rw[e,HH.o.jQ]at h1;cases h1
   have iW:acs (∀w4,w.drew.mapTurned w4 mb→w4.cell? ⟨p,0,none⟩=some (.map (some mb))∧w4.cell? ⟨ib id,0,none⟩=some (.int .i64 id)):=fun w4 hT=>⟨(aau (w:=w.drew) (w':=w4) (a:=⟨p,0,none⟩) (dL hT p hpw hne1)).trans hc0,(aau (w:=w.drew) (w':=w4) (a:=⟨ib id,0,none⟩) (dL hT _ hiw hne2)).trans c0⟩;clear hst HS h0 hcl e0 hne1 hne2;go_enter Tryz.func190,Tryz.ntmps190;go_wp2
   go_region_held3 (fun w'=>w'.cell? ⟨p,0,none⟩=some (.map (some mb))∧w'.cell? ⟨ib id,0,none⟩=some (.int .i64 id)) (first|exact⟨hc0,c0⟩|exact iW.o _ kK) ((first|(obtain⟨w4,FK,uX,kK⟩:=HST.o;rw[FK];go_simp)))
   have hsz:=jL kK;have hK:=iF kK
   go_end0
   refine⟨rfl,?_,⟨hK.os,hK.tape,hK.output,hK.size,hK.block⟩,hsz⟩;rw[HF.o];exact(HH.o.below acv.drew acu).del uX hK.size (fun b hb hbm=>hK.block b hb hbm)
  |false=>
   rw[hcl]at c5;have HF:acs (gY T id=T):=HS.o.trans (if_neg (fun h=>by rw[hcl]at h;cases h.2));clear HS h0 hcl e0;go_enter Tryz.func190,Tryz.ntmps190;go_wp2
   go_end0
   exact⟨rfl,by rw[HF.o];exact HH.o,Keeps.refl _ _,rfl⟩
 ·have e0:(x.links==0)=false:=by simpa using h0
  have HF:acs (gY T id=T):=HS.o.trans (if_neg (fun h=>h0 h.1));clear HS h0;go_enter Tryz.func190,Tryz.ntmps190;go_wp2
  go_end0
  exact⟨rfl,by rw[HF.o];exact HH.o,Keeps.refl _ _,rfl⟩
end
end Go.Proofs.YtjnhnlabpccgjaaGreatDoor
