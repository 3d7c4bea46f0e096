/- tree: read, one node of a reader's bytes. -/
import Derived.Test.YtmabllemjkcobaaGreatDoorM45
import Derived.Test.YtmabllemjkcobaaGreatDoorM46
import Derived.Test.YtmabllemjkcobaaGreatDoorM10
import Derived.Test.YtmabllemjkcobaaGreatDoorM24
import Derived.Test.YtmabllemjkcobaaGreatDoorM14
import Derived.Test.YtmabllemjkcobaaGreatDoorM05
import Derived.Test.YtmabllemjkcobaaGreatDoorM04
import Derived.Deep.QuietTactic
import Derived.BigQuiet
namespace Go.Proofs.YtmabllemjkcobaaGreatDoor
open Go.ChangeShapes Go.WideShapes Go.ChangeAt Go.RowKit
set_option linter.unusedVariables false
set_option linter.unusedSimpArgs false
theorem Gq {fp:Nat→Prop} {w w1:World} (h:Keeps fp w w1):Keeps fp w w1.drew:=⟨h.os,h.tape,h.output,h.size,h.block⟩
theorem qZ {fp:Nat→Prop} {w w1:World} (n:Nat) (h:Keeps fp w w1):Keeps fp w (w1.drewN n):=⟨h.os,h.tape,h.output,h.size,h.block⟩
theorem jg {fp:Nat→Prop} {w w1 w2:World} (h:Keeps fp w w1) (hb:Below w1.heap.size w1 w2):Keeps fp w w2:=h.trans (Keeps.below hb) fun z hz hz'=>by have:=h.size;omega
theorem vH (s:Rd):(aI s).1.length≤65535:=by
 have hr:=fT s 2
 have hp:(256:Int)^2=65536:=rfl
 unfold aI
 obtain⟨k,hk⟩:∃k:Nat,(bg s 2).1=(k:Int):=⟨(bg s 2).1.toNat,by omega⟩
 rw[hk]
 have:=IB (bg s 2).2 k
 omega
theorem aZ.drew {D:Nat→Prop} {w:World} {x:Nat} {s:Rd} (h:aZ D w x s):aZ D w.drew x s:=h.kept (Nat.le_refl _) rfl fun _ _ _=>rfl
theorem aZ.drewN {D:Nat→Prop} {w:World} {x:Nat} {s:Rd} (n:Nat) (h:aZ D w x s):aZ D (w.drewN n) x s:=h.kept (Nat.le_refl _) rfl fun _ _ _=>rfl
theorem qd:∀a b:List UInt8,Op.bytesLess a b=bytesBefore a b
 |[],[]=>rfl
 |[],_::_=>rfl
 |_::_,[]=>rfl
 |x::r,y::s=>by
  unfold Op.bytesLess bytesBefore
  rw[qd r s]
def lF (D:Nat→Prop) (w:World) (x:Nat) (s:Rd) (e:Ending) (w':World):Prop:=
 Keeps (fun b=>b=x) w w'∧match h_ s with
  |none=>∃v,e= .returned (.tuple #[v, .bool false])
  |some q=>∃(i n:Nat) (D2:Nat→Prop),e= .returned (.tuple #[ptr i, .bool true])∧aZ D w' x q.2∧iA D2 w' q.1.1 i n q.1.2∧w.heap.size≤i∧i<w'.heap.size∧(q.1.2.kind=2→w.heap.size≤n∧n<w'.heap.size∧i≠n)∧∀b,D2 b→w.heap.size≤b∧b<w'.heap.size∧b≠i∧(q.1.2.kind=2→b≠n)
theorem lF.none_ {D:Nat→Prop} {w w':World} {x:Nat} {s:Rd} {v:Value} (hk:Keeps (fun b=>b=x) w w') (h:h_ s=none):lF D w x s (.returned (.tuple #[v, .bool false])) w':=by
 refine⟨hk,?_⟩
 rw[h]
 exact⟨v,rfl⟩
def XW (D:Nat→Prop) (w8:World) (x m cnt:Nat) (s0:Rd) (lv iv:Value) (wr:World):Prop:=
 ∃(k:Nat) (sr:Rd) (last:Nm) (acc:List (Nm×Int)),iv= .int .i64 k∧k≤cnt∧lv= .string (strOf last)∧g_ (cnt-k) sr last acc=g_ cnt s0 [] []∧(∀e∈acc,e.1=last∨bytesBefore e.1 last=true)∧acc.length=k∧aZ D wr x sr∧MapAt bV wr m (acc.map fun e=>(e.1, .int .i64 e.2))∧Keeps (fun b=>b=x∨b=m) w8 wr
theorem wC {k:Nat} {s:Rd} {last:Nm} {acc:List (Nm×Int)} (h1:(bg (aI s).2 2).2.2=0) (h2:dM (aI s).1=true) (h3:bytesBefore last (aI s).1=true):
  g_ (k+1) s last acc=g_ k (bg (aI s).2 2).2 (aI s).1 (acc++[((aI s).1,(bg (aI s).2 2).1)]):=by
 rw[g_]
 rw[if_neg (by rw[h1,h2,h3];simp)]
theorem En {k:Nat} {s:Rd} {last:Nm} {acc:List (Nm×Int)} (h:(bg (aI s).2 2).2.2≠0∨dM (aI s).1=false∨bytesBefore last (aI s).1=false):g_ (k+1) s last acc=none:=by
 rw[g_]
 rw[if_pos h]
theorem KN {s:Rd} {cnt:Nat} (hd:(bN (aI s).1).2=0) (hl:((aI (aI s).2).1.length:Int)=(bN (aI s).1).1.size) (hk:(bN (aI s).1).1.kind≠1) (hc:(bg (aI (aI s).2).2 2).1=(cnt:Int)) (h:g_ cnt (bg (aI (aI s).2).2 2).2 [] []=none):h_ s=none:=by
 unfold h_
 dsimp only
 rw[if_neg (by rw[hd,hl];simp),if_neg hk,hc,Int.toNat_natCast,h]
theorem KO {s:Rd} {cnt:Nat} {q:List (Nm×Int)×Rd} (hd:(bN (aI s).1).2=0) (hl:((aI (aI s).2).1.length:Int)=(bN (aI s).1).1.size) (hk:(bN (aI s).1).1.kind≠1) (hc:(bg (aI (aI s).2).2 2).1=(cnt:Int)) (h:g_ cnt (bg (aI (aI s).2).2 2).2 [] []=some q):
  h_ s=some (((bN (aI s).1).1.id,um (bN (aI s).1).1 (aI (aI s).2).1 q.1),q.2):=by
 unfold h_
 dsimp only
 rw[if_neg (by rw[hd,hl];simp),if_neg hk,hc,Int.toNat_natCast,h]
theorem yT {acc:List (Nm×Int)} {last nm:Nm} (h:∀e∈acc,e.1=last∨bytesBefore e.1 last=true) (hb:bytesBefore last nm=true):∀e∈acc,bytesBefore e.1 nm=true:=fun e he=>by
 rcases h e he with h1|h1
 ·rw[h1];exact hb
 ·exact mK _ _ _ h1 hb
theorem II {acc:List (Nm×Int)} {last nm:Nm} (h:∀e∈acc,e.1=last∨bytesBefore e.1 last=true) (hb:bytesBefore last nm=true) (v:Int):
  cO bytesBefore nm (.int .i64 v:Value) (acc.map fun e=>(e.1,(.int .i64 e.2:Value)))=(acc++[(nm,v)]).map fun e=>(e.1,(.int .i64 e.2:Value)):=by
 rw[AJ bytesBefore _ fun q hq=> ?_]
 ·simp
 ·obtain⟨e,he,rfl⟩:=List.mem_map.1 hq
  have h1:=yT h hb e he
  dsimp only
  refine⟨fun e1=> ?_,?_⟩
  ·rw[e1,Go.WideAt.bytes_irrefl]at h1;cases h1
  ·cases h2:bytesBefore nm e.1 with
   |false=>rfl
   |true=>
    have h3:=mK _ _ _ h1 h2
    rw[Go.WideAt.bytes_irrefl]at h3
    cases h3
section
variable {D:Nat→Prop} {x:Nat} {w:World} {s:Rd}
set_option maxRecDepth 100000 in
set_option maxHeartbeats 16000000 in
theorem KP (h:aZ D w x s):Calls Tryz.prog 165 #[ptr x] w (lF D w x s):=by
 have hxw:=h.lt
 have HB0:=Lib.hid (uo h)
 have hl1:=vH s
 obtain⟨b1,Rh⟩:∃b,b=(aI s).1:=⟨_,rfl⟩
 obtain⟨s1,UL⟩:∃t,t=(aI s).2:=⟨_,rfl⟩
 rw[←Rh,←UL]at HB0
 rw[←Rh]at hl1
 have UM:=Lib.hid (And.intro Rh UL)
 clear h Rh UL
 go_enter Tryz.func165,Tryz.ntmps165
 go_wp2_with fail
 (with_reducible refine HB0.out.mono ?_)
 rintro e w1 ⟨a1,c1,rfl,hc1,hr1,kP,hK1⟩
 have P9:=Lib.hid hK1
 have HR1:=Lib.hid kP
 have HD:=Lib.hid (Gp a1 b1.length c1 b1 w1 (by omega) hr1)
 clear hc1 hr1 kP hK1 HB0
 obtain⟨⟨id,kind,links,size,au,closed⟩,hN⟩:∃N,N=(bN b1).1:=⟨_,rfl⟩
 obtain⟨z,hz⟩:∃z,z=(bN b1).2:=⟨_,rfl⟩
 rw[←hN,←hz]at HD
 unfold UJ at HD
 dsimp only at HD
 have HN:=Lib.hid (And.intro hN hz)
 clear hN hz
 go_wp2_with fail
 (with_reducible refine HD.out.mono ?_)
 rintro e w2 ⟨rfl,hb2⟩
 have yZ:=Lib.hid (jg P9.out hb2)
 have HR2:=Lib.hid (HR1.out.below hb2 (Nat.le_refl _))
 have hx2:x<w2.heap.size:=HR2.out.lt
 clear hb2 HD P9 HR1
 go_wp2_with fail
 obtain⟨w3,hw3⟩:∃w3,w3=w2.alloc (.cells #[.int .i64 id, .int .i64 kind, .int .i64 links, .int .i64 size, .int .u64 au, .bool closed] 34):=⟨_,rfl⟩
 rw[←hw3]
 have O8:w3.heap[w2.heap.size]? =some (.cells #[.int .i64 id, .int .i64 kind, .int .i64 links, .int .i64 size, .int .u64 au, .bool closed] 34 (0,0)):=by rw[hw3];exact(MapKept.heap_alloc w2 _).1
 have hb3:Below w2.heap.size w2 w3:=by rw[hw3];exact wall w2 _
 have SI:=Lib.hid (jg yZ.out hb3)
 have HR3:=Lib.hid (HR2.out.below hb3 (Nat.le_refl _))
 have hvw:=(Array.getElem?_eq_some_iff.1 O8).1
 have Vz:Hid (∀w',Keeps (fun b=>b=x) w3 w'→w'.heap[w2.heap.size]? =some (.cells #[.int .i64 id, .int .i64 kind, .int .i64 links, .int .i64 size, .int .u64 au, .bool closed] 34 (0,0))):=fun w' hK=>(hK.block _ hvw (fun(e:w2.heap.size=x)=>by omega)).trans O8
 have jl:Hid (∀w',Keeps (fun b=>b=x) w3 w'→w'.cell? ⟨w2.heap.size,0,none⟩=some (.int .i64 id)∧w'.cell? ⟨w2.heap.size,1,none⟩=some (.int .i64 kind)∧w'.cell? ⟨w2.heap.size,2,none⟩=some (.int .i64 links)∧w'.cell? ⟨w2.heap.size,3,none⟩=some (.int .i64 size)∧w'.cell? ⟨w2.heap.size,4,none⟩=some (.int .u64 au)∧w'.cell? ⟨w2.heap.size,5,none⟩=some (.bool closed)):=fun w' hK=>
  ⟨bY (Vz.out w' hK) 0,bY (Vz.out w' hK) 1,bY (Vz.out w' hK) 2,bY (Vz.out w' hK) 3,bY (Vz.out w' hK) 4,bY (Vz.out w' hK) 5⟩
 have hs2:=yZ.out.size
 clear hw3 hb3 O8 yZ HR2
 have HB3:=Lib.hid (uo HR3.out.drew)
 have hl4:=vH s1
 obtain⟨b4,Ri⟩:∃b,b=(aI s1).1:=⟨_,rfl⟩
 obtain⟨s4,UN⟩:∃t,t=(aI s1).2:=⟨_,rfl⟩
 rw[←Ri,←UN]at HB3
 rw[←Ri]at hl4
 have EG:=Lib.hid (And.intro Ri UN)
 clear Ri UN HR3
 obtain⟨L,hL⟩:∃L,L=b4.length:=⟨_,rfl⟩
 have HL:=Lib.hid hL
 rw[←hL]at hl4
 clear hL
 refine wp_region_noPanic ?_
 refine wp_region_held_drew (S:=(fun w'=>w'.cell? ⟨w2.heap.size,0,none⟩=some (.int .i64 id)∧w'.cell? ⟨w2.heap.size,1,none⟩=some (.int .i64 kind)∧w'.cell? ⟨w2.heap.size,2,none⟩=some (.int .i64 links)∧w'.cell? ⟨w2.heap.size,3,none⟩=some (.int .i64 size)∧w'.cell? ⟨w2.heap.size,4,none⟩=some (.int .u64 au)∧w'.cell? ⟨w2.heap.size,5,none⟩=some (.bool closed))) (by kernel_rfl) ?_ (fun hS=> ?_)
 ·exact jl.out _ (Gq (Keeps.refl _ _))
 refine dz 0 (hS:=hS) (h:= ?_)
 refine dz 1 (hS:=hS) (h:= ?_)
 refine uW 2 (h:=fun K hK=> ?_)
 go_simp
 (with_reducible refine HB3.out.mono ?_)
 rintro e w4 ⟨a4,c4,rfl,hc4,hr4,zq,hK4⟩
 have OL:Hid (Keeps (fun b=>b=x) w3 w4):=⟨hK4.os,hK4.tape,hK4.output,hK4.size,hK4.block⟩
 rw[←HL.out]at hc4 hr4
 rw[←HL.out]
 have Rc:=Lib.hid hc4
 have HR4:=Lib.hid hr4
 have KQ:=Lib.hid zq
 have hs4:w3.heap.size≤w4.heap.size:=hK4.size
 clear hc4 hr4 zq hK4 HB3
 go_wp2_with fail
 refine hK.out _ _ (jl.out _ OL.out) (fun hS=> ?_)
 clear hK K
 try simp only[Act.put,List.setIfInBounds_toArray,List.set_cons_zero,List.set_cons_succ]
 refine dz 3 (hS:=hS) (h:= ?_)
 refine uW 4 (h:=fun K hK=> ?_)
 go_simp
 refine hK.out _ _ (jl.out _ (jg OL.out (wall w4 _))) (fun hS=> ?_)
 clear hK K
 try simp only[Act.put,List.setIfInBounds_toArray,List.set_cons_zero,List.set_cons_succ]
 refine dz 5 (hS:=hS) (h:= ?_)
 refine wpAnyH_done (by kernel_rfl) ?_ _
 refine NoPanic.normal ?_
 obtain⟨w5,Ph⟩:∃w5,w5=w4.alloc (.cells #[.int .i64 id, .int .i64 kind, .int .i64 links, .int .i64 size, .int .u64 au, .bool closed, .slice a4 L c4, .map none] 94):=⟨_,rfl⟩
 rw[←Ph]
 have hit:w5.heap[w4.heap.size]? =some (.cells #[.int .i64 id, .int .i64 kind, .int .i64 links, .int .i64 size, .int .u64 au, .bool closed, .slice a4 L c4, .map none] 94 (0,0)):=by rw[Ph];exact(MapKept.heap_alloc w4 _).1
 have hb5:Below w4.heap.size w4 w5:=by rw[Ph];exact wall w4 _
 have jI:=Lib.hid hb5
 have HIT:=Lib.hid hit
 have hq5:=jl.out _ (jg OL.out hb5)
 obtain⟨-,hq1,-,hq3,-,-⟩:=hq5
 have hi6:w5.cell? ⟨w4.heap.size,6,none⟩=some (.slice a4 L c4):=bY hit 6
 have Db:=Lib.hid (SI.out.trans (jg OL.out hb5) fun b _ hb=>hb)
 have hiw:=(Array.getElem?_eq_some_iff.1 hit).1
 clear Ph hit hb5
 go_wp2_with fail
 by_cases hz:z=0
 ·have HZ:=Lib.hid hz
  have g1:(z==0)=true:=by simpa using hz
  have g2:(z !=0)=false:=by simpa using hz
  clear hz
  by_cases hln:(L:Int)=size
  ·have Rj:=Lib.hid hln
   have g3:((L:Int)==size)=true:=by simpa using hln
   have g4:((L:Int) !=size)=false:=by simpa using hln
   clear hln
   go_quiet (fail)
   have Wv:Keeps (fun b=>b=x) w (w5.drewN nq):=qZ nq Db.out
   have UO:aZ D (w5.drewN nq) x s4:=(KQ.out.below jI.out (Nat.le_refl _)).drewN nq
   have UQ:(w5.drewN nq).heap[w4.heap.size]? =some (.cells #[.int .i64 id, .int .i64 kind, .int .i64 links, .int .i64 size, .int .u64 au, .bool closed, .slice a4 L c4, .map none] 94 (0,0)):=HIT.out
   have SK:aj (fun b=>w3.drew.heap.size≤b∧b<w4.heap.size) (w5.drewN nq) a4 L (b4.map bv):=(HR4.out.below jI.out (Nat.le_refl _)).kept (Nat.le_refl _) fun _ _ _=>rfl
   have hk6:(w5.drewN nq).cell? ⟨w2.heap.size,1,none⟩=some (.int .i64 kind):=hq1
   have hvw6:w2.heap.size<(w5.drewN nq).heap.size:=Nat.lt_of_lt_of_le hvw (Nat.le_trans hs4 jI.out.size)
   clear hq1 hq3 hi6 HIT Db
   generalize w5.drewN nq=w6 at*
   have HS:=Lib.hid (nu UO)
   have hrg:=fT s4 2
   obtain⟨cnt,hcnt⟩:∃cnt:Nat,(bg s4 2).1=(cnt:Int):=⟨(bg s4 2).1.toNat,by omega⟩
   have hcb:cnt<65536:=by
    have:(256:Int)^2=65536:=rfl
    omega
   obtain⟨s5,hs5⟩:∃t,t=(bg s4 2).2:=⟨_,rfl⟩
   rw[hcnt,←hs5]at HS
   have Gs:=Lib.hid (And.intro hcnt hs5)
   have IJ:=Lib.hid SK
   have HIT6:=Lib.hid UQ
   have Ww:=Lib.hid Wv
   have hx6:=UO.lt
   have XY:=(Array.getElem?_eq_some_iff.1 UQ).1
   have hix:w4.heap.size≠x:=by have:=KQ.out.lt;omega
   clear hrg hcnt hs5 SK UQ Wv UO
   go_wp2_with fail
   (with_reducible refine HS.out.mono ?_)
   rintro e w7 ⟨rfl,VA,VB⟩
   have hvx:w2.heap.size≠x:=by omega
   have hk7:w7.cell? ⟨w2.heap.size,1,none⟩=some (.int .i64 kind):=(World.cell?_of_block (w:=w6) (w':=w7) (a:=⟨w2.heap.size,1,none⟩) (VB.block _ hvw6 hvx)).trans hk6
   have XZ:=(VB.block _ XY hix).trans HIT6.out
   have hs7:=VB.size
   have UR:=Lib.hid (Ww.out.trans VB fun b _ hb=>hb)
   have IK:Hid (aj (fun b=>w3.drew.heap.size≤b∧b<w4.heap.size) w7 a4 L (b4.map bv)):=IJ.out.kept hs7 fun b hb hbw=>VB.block b hbw fun(e:b=x)=>by have:=KQ.out.lt;have:=OL.out.size;have h9:w3.heap.size≤b:=hb.1;have:=SI.out.size;omega
   have Vy:=Lib.hid VA
   have Rk:=Lib.hid XZ
   have mE:Hid ((bN (aI s).1).1=⟨id,kind,links,size,au,closed⟩∧(bN (aI s).1).2=0∧(aI (aI s).2).1=b4∧(aI (aI s).2).2=s4):=by
    refine⟨?_,?_,?_,?_⟩
    ·rw[←UM.out.1,←HN.out.1]
    ·rw[←UM.out.1,←HN.out.2,HZ.out]
    ·rw[←UM.out.2,←EG.out.1]
    ·rw[←UM.out.2,←EG.out.2]
   have hs30:=SI.out.size
   have hs34:=hs4
   have UF:=jI.out.size
   have X0:∀(l:List (Nm×Int)) (nb:Nat) (v:Value),v=dH (um ⟨id,kind,links,size,au,closed⟩ b4 l) nb→gL id (um ⟨id,kind,links,size,au,closed⟩ b4 l) a4 c4 nb= #[.int .i64 id, .int .i64 kind, .int .i64 links, .int .i64 size, .int .u64 au, .bool closed, .slice a4 L c4,v]:=fun l nb v hv=>by
    rw[hv]
    unfold gL um
    dsimp only
    rw[←HL.out,Rj.out]
   have X3:=Lib.hid X0
   have HLX:=KQ.out.lt
   clear VA VB XZ X0 HS hk6
   by_cases hk1:kind=1
   ·have g5:(kind==1)=true:=by simpa using hk1
    by_cases hc0:cnt=0
    ·have HF:Hid (h_ s=some ((id,um ⟨id,kind,links,size,au,closed⟩ b4 []),s5)):=by
      show _=_
      unfold h_
      dsimp only
      rw[mE.out.1,mE.out.2.1,mE.out.2.2.1,mE.out.2.2.2,if_neg (by
       dsimp only
       rw[←HL.out,Rj.out]
       simp),if_pos hk1,if_pos (by rw[Gs.out.1,hc0];rfl),Gs.out.2]
     subst hc0
     have Gt:=Lib.hid hk1
     clear hk1
     go_wp2_with fail
     go_ret2
     refine⟨UR.out,?_⟩
     rw[HF.out]
     refine⟨w4.heap.size,0,fun b=>w3.drew.heap.size≤b∧b<w4.heap.size,rfl,Vy.out,⟨⟨a4,c4,?_,?_,?_⟩,fun hk=> ?_⟩,by omega,by omega,fun hk=> ?_,fun b hb=> ?_⟩
     ·rw[X3.out [] 0 (.map none) (if_neg (by show ¬kind=2;rw[Gt.out];decide)).symm]
      exact Rk.out
     ·show nK b4.length c4
      rw[←HL.out];exact Rc.out
     ·show aj _ w7 a4 b4.length _
      rw[←HL.out];exact IK.out
     ·have h9:kind=2:=hk
      rw[Gt.out]at h9;cases h9
     ·have h9:kind=2:=hk
      rw[Gt.out]at h9;cases h9
     ·have h9:w3.heap.size≤b:=hb.1
      have h8:=hb.2
      exact⟨by omega,by omega,by omega,fun hk=>by
       have h9:kind=2:=hk
       rw[Gt.out]at h9;cases h9⟩
    ·have HF:Hid (h_ s=none):=by
      show _=_
      unfold h_
      dsimp only
      rw[mE.out.1,mE.out.2.1,mE.out.2.2.1,mE.out.2.2.2,if_neg (by
       dsimp only
       rw[←HL.out,Rj.out]
       simp),if_pos hk1,if_neg (by rw[Gs.out.1];omega)]
     have g6:((cnt:Int)==0)=false:=by simpa using hc0
     clear hk1 hc0
     go_wp2_with fail
     go_ret2
     exact lF.none_ UR.out HF.out
   ·have g5:(kind==1)=false:=by simpa using hk1
    have hk2:kind=2:=by
     have h9:=(yK mE.out.2.1).2.1
     rw[mE.out.1]at h9
     rcases h9 with h9|h9
     ·exact absurd h9.1 hk1
     ·exact h9.1
    have HK2':=Lib.hid hk2
    have Gt:=Lib.hid hk1
    have hmm:= @run_makeMap Tryz.prog
    have YS:w7.frozen? ⟨w4.heap.size,7,none⟩=false:=by simp only[World.frozen?,Rk.out];rfl
    have X4:w7.cell? ⟨w4.heap.size,7,none⟩=some (.map none):=bY Rk.out 7
    have hlt7:w4.heap.size<w7.heap.size:=Nat.lt_of_lt_of_le XY hs7
    clear hk1 hk2
    go_wp2_with fail
    obtain⟨w8,hw8⟩:∃w8,w8=(w7.setCell ⟨w4.heap.size,7,none⟩ (.map (some w7.heap.size))).alloc (.map #[] 0):=⟨_,rfl⟩
    have Rl:(w7.setCell ⟨w4.heap.size,7,none⟩ (.map (some w7.heap.size))).heap.size=w7.heap.size:=size_set _ _ _
    rw[←hw8]
    have uQ:w8.heap.size=w7.heap.size+1:=by rw[hw8,World.size_alloc,Rl]
    have QH:MapAt bV w8 w7.heap.size []:=by
     have:=MapAt.made (F:=bV) (w7.setCell ⟨w4.heap.size,7,none⟩ (.map (some w7.heap.size)))
     rw[Rl]at this
     rw[hw8]
     exact this
    have hold:∀b,b<w7.heap.size→b≠w4.heap.size→w8.heap[b]? =w7.heap[b]? :=fun b hb hn=>by
     rw[hw8]
     exact((wall _ _).block b (by rw[Rl];exact hb)).trans (bE _ _ _ _ hn)
    have hI8:w8.heap[w4.heap.size]? =some (.cells #[.int .i64 id, .int .i64 kind, .int .i64 links, .int .i64 size, .int .u64 au, .bool closed, .slice a4 L c4, .map (some w7.heap.size)] 94 (0,0)):=by
     rw[hw8,(wall (w7.setCell ⟨w4.heap.size,7,none⟩ (.map (some w7.heap.size))) _).block _ (by rw[Rl];exact hlt7),aX Rk.out]
     rfl
    have hK8:Keeps (fun b=>b=x) w w8:=by
     have hk:Keeps (fun b=>b=w4.heap.size) w7 w8:=by
      rw[hw8]
      exact jg (Keeps.lN w7 ⟨w4.heap.size,7,none⟩ _) (wall _ _)
     exact⟨hk.os.trans UR.out.os,hk.tape.trans UR.out.tape,hk.output.trans UR.out.output,by have:=UR.out.size;omega,fun b hb hn=>(hold b (by omega) (by omega)).trans (UR.out.block b hb hn)⟩
    have JX:=Lib.hid (Vy.out.kept (w1:=w8) (by omega) (hold x (by omega) (by omega)) fun b hb hbw=>hold b hbw (fun e=>by have:=KQ.out.low b hb;omega))
    have EB:=Lib.hid QH
    have HI8:=Lib.hid hI8
    have YM:=Lib.hid hK8
    have HOLD:=Lib.hid hold
    clear hw8 QH hI8 hK8 hold YS X4 hmm hk7
    go_loopw [8,46] (fun lv iv wr=>XW D w8 x w7.heap.size cnt s5 lv iv wr) (fun _ iv _=>cnt-(intOf iv).toNat)
    case atStart=>exact⟨0,s5,[],[],rfl,Nat.zero_le _,rfl,rfl,fun e he=>(by cases he),rfl,JX.out,EB.out,Keeps.refl _ _⟩
    case round=>
     obtain⟨k,sr,last,acc,rfl,hk,rfl,hrn,hal,hac,hRr,hMr,hKr⟩:=hrel
     have YT:=Lib.hid hrn
     have UU:=Lib.hid hal
     have VD:=Lib.hid hac
     have HRR:=Lib.hid hRr
     have UW:=Lib.hid hMr
     have UY:=Lib.hid hKr
     clear hrn hal hac hRr hMr hKr
     by_cases hlt:k<cnt
     ·have hmr:=UW.out.lt
      have C_:=EB.out.lt
      have hsr:=UY.out.size
      have Qk:=HRR.out.lt
      have hI:wr.heap[w4.heap.size]? =some (.cells #[.int .i64 id, .int .i64 kind, .int .i64 links, .int .i64 size, .int .u64 au, .bool closed, .slice a4 L c4, .map (some w7.heap.size)] 94 (0,0)):=(UY.out.block _ (by omega) (by omega)).trans HI8.out
      have HI:=Lib.hid hI
      have K6:=Lib.hid (uo HRR.out)
      have hnl:=vH sr
      obtain⟨nm,hnm⟩:∃b,b=(aI sr).1:=⟨_,rfl⟩
      obtain⟨t1,ht1⟩:∃t,t=(aI sr).2:=⟨_,rfl⟩
      rw[←hnm,←ht1]at K6
      rw[←hnm]at hnl
      have mF:=Lib.hid (And.intro hnm ht1)
      have X5:Hid (∀w',Keeps (fun b=>b=x∨b=w7.heap.size) w8 w'→Keeps (fun b=>b=x) w w'):=fun w' hK=>YM.out.trans hK fun z hz hzx=>hzx.resolve_right fun e=>by omega
      clear hnm ht1 hI
      go_wp2_with fail
      (with_reducible refine K6.out.mono ?_)
      rintro e wa ⟨aa,ca,rfl,hca,hra,hRa,hKa⟩
      have hcv:(convert 26 9 (.slice aa nm.length ca)).run Tryz.prog wa= .ok (.string (strOf nm)) wa:=dD (c:=ca) hra
      have HRA:=Lib.hid hRa
      have HKA:=Lib.hid hKa
      have hsa:=hKa.size
      have HMA:=Lib.hid (UW.out.kept (hKa.block _ hmr (by omega)))
      have HIA:=Lib.hid ((hKa.block _ (by omega) hix).trans HI.out)
      clear hca hra hRa hKa K6
      go_wp2_with fail
      clear hcv
      have Me:=Lib.hid (nu HRA.out.drew)
      obtain⟨v,hv⟩:∃v,v=(bg t1 2).1:=⟨_,rfl⟩
      obtain⟨t2,ht2⟩:∃t,t=(bg t1 2).2:=⟨_,rfl⟩
      rw[←hv,←ht2]at Me
      have HV:=Lib.hid (And.intro hv ht2)
      clear hv ht2
      refine wp_region_noPanic ?_
      refine bH (last:=7) (S:=(fun w'=>w'.cell? ⟨w4.heap.size,7,none⟩=some (.map (some w7.heap.size)))) (by kernel_rfl) ?_ (fun hS=> ?_)
      ·exact bY HIA.out 7
      refine bf 0 (hS:=hS) (h:= ?_)
      refine bf 1 (hS:=hS) (h:= ?_)
      refine bf 2 (hS:=hS) (h:= ?_)
      refine bf 3 (hS:=hS) (h:= ?_)
      refine bf 4 (hS:=hS) (h:= ?_)
      refine bf 5 (hS:=hS) (h:= ?_)
      refine jF 6 (h:=fun K hK=> ?_)
      go_simp
      (with_reducible refine Me.out.mono ?_)
      rintro e wb ⟨rfl,hRb,hKb⟩
      have hIb:wb.heap[w4.heap.size]? =some (.cells #[.int .i64 id, .int .i64 kind, .int .i64 links, .int .i64 size, .int .u64 au, .bool closed, .slice a4 L c4, .map (some w7.heap.size)] 94 (0,0)):=(hKb.block _ (by show w4.heap.size<wa.heap.size;omega) hix).trans HIA.out
      have hMb:MapAt bV wb w7.heap.size (acc.map fun e=>(e.1, .int .i64 e.2)):=HMA.out.kept (hKb.block _ (by show w7.heap.size<wa.heap.size;omega) (by omega))
      have hsb:wa.heap.size≤wb.heap.size:=hKb.size
      have HRB:=Lib.hid hRb
      have HKB:Hid (Keeps (fun b=>b=x) wa wb):=⟨hKb.os,hKb.tape,hKb.output,hKb.size,hKb.block⟩
      clear hRb hKb Me
      go_wp2_with fail
      refine hK.out _ _ (fun _=>bY hIb 7) (fun hS=> ?_)
      replace hS:=hS (by decide)
      clear hK K
      try simp only[Act.put,List.setIfInBounds_toArray,List.set_cons_zero,List.set_cons_succ]
      refine jF 7 (h:=fun K hK=> ?_)
      go_simp
      obtain⟨wc,hrun,hMc,QA⟩:=hMb.oC bV Tryz.underlying92 (by rw[List.length_map,VD.out];unfold maxLen;omega) nm (.int .i64 v) (by show nm.length≤maxLen;unfold maxLen;omega)
      have hval:bV.val nm= .string (strOf nm):=rfl
      rw[hval]at hrun
      rw[hrun]
      go_simp
      refine hK.out _ _ (fun h=>absurd rfl h) (fun hS=> ?_)
      clear hS hK K
      try simp only[Act.put,List.setIfInBounds_toArray,List.set_cons_zero,List.set_cons_succ]
      refine aT (by kernel_rfl) ?_ _
      refine NoPanic.normal ?_
      have hsc:=gQ QA
      have KZ:=Lib.hid hMc
      have Vr:=Lib.hid (HRB.out.kept (w1:=wc) (by omega) (bQ QA x (by have:=HRB.out.lt;omega) (by omega)) fun b hb hbw=>bQ QA b hbw (fun e=>by have:=KQ.out.low b hb;omega))
      have HKC:Hid (Keeps (fun b=>b=x∨b=w7.heap.size) w8 wc):=((UY.out.trans HKA.out fun z _ hz=> .inl hz).trans HKB.out fun z _ hz=> .inl hz).trans (Keeps.turned QA) fun z _ hz=> .inr hz
      clear hrun hMc QA hMb hIb hval
      have Rm:=Lib.hid (fun w'=>Ct (strOf nm) w' (by rw[dJ];unfold maxLen;omega))
      have hgl:(strOf nm).data.toList=nm:=by simp[strOf]
      rw[hgl]at Rm
      have wS:=Lib.hid (IE Vr.out)
      have O9:=Lib.hid (BM Vr.out)
      have qo:Hid ((t2.2≠0∨dM nm=false∨bytesBefore last nm=false)→h_ s=none):=fun hh=>by
       refine KN (cnt:=cnt) mE.out.2.1 (by rw[mE.out.2.2.1,mE.out.1];dsimp only;rw[←HL.out,Rj.out]) (by rw[mE.out.1];exact Gt.out) (by rw[mE.out.2.2.2];exact Gs.out.1) ?_
       rw[mE.out.2.2.2,←Gs.out.2,←YT.out,show cnt-k=(cnt-(k+1))+1 by omega]
       refine En ?_
       rw[←mF.out.1,←mF.out.2,←HV.out.2]
       exact hh
      clear hgl
      by_cases he:t2.2=0
      ·have hgo:∀w',Below wc.heap.size wc w'→Keeps (fun b=>b=x∨b=w7.heap.size) w8 w':=fun w' hb=>jg HKC.out hb
       have Ng:=Lib.hid hgo
       have HE0:=Lib.hid he
       clear hgo
       rcases Nat.eq_zero_or_pos t2.1.length with hl0|hl0
       ·have hlf:kT t2=0:=by unfold kT;rw[if_neg (by simp[he])];exact hl0
        have hen:nG t2=0:=by unfold nG;rw[if_neg (fun hh=>by omega)];exact he
        rw[hlf]at wS
        rw[hen]at O9
        clear hlf hen hl0 he
        go_wp2_with fail
        (with_reducible refine wS.out.mono ?_)
        rintro e _ ⟨rfl,rfl⟩
        go_wp2_with fail
        (with_reducible refine O9.out.mono ?_)
        rintro e _ ⟨rfl,rfl⟩
        go_wp2_with fail
        cases hg:dM nm with
        |false=>
         rw[hg]at Rm
         have HF:=Lib.hid (qo.out (.inr (.inl hg)))
         clear hg qo
         (with_reducible refine(Rm.out _).mono ?_)
         rintro e wd ⟨rfl,hbd⟩
         have OM:=Lib.hid (X5.out _ (Ng.out _ hbd))
         clear hbd
         go_wp2_with fail
         go_ret2
         exact lF.none_ OM.out HF.out
        |true=>
         rw[hg]at Rm
         have HG:=Lib.hid hg
         clear hg
         (with_reducible refine(Rm.out _).mono ?_)
         rintro e wd ⟨rfl,hbd⟩
         have FW:=Lib.hid hbd
         clear hbd
         cases hb:bytesBefore last nm with
         |false=>
          have HF:=Lib.hid (qo.out (.inr (.inr hb)))
          have OM:=Lib.hid (X5.out _ (Ng.out _ FW.out))
          clear qo
          by_cases heq:nm=last
          ·subst heq
           have e1:Op.bytesLess (strOf nm).toList (strOf nm).toList=false:=by rw[eX,qd];exact Go.WideAt.bytes_irrefl _
           have e2:((strOf nm).toList==(strOf nm).toList)=true:=by simp
           clear hb
           go_wp2_with fail
           go_ret2
           exact lF.none_ OM.out HF.out
          ·have e1:Op.bytesLess (strOf nm).toList (strOf last).toList=true:=by
            rw[eX,eX,qd]
            rcases Go.WideAt.bytes_total nm last heq with h9|h9
            ·exact h9
            ·rw[hb]at h9;cases h9
           clear hb heq
           go_wp2_with fail
           go_ret2
           exact lF.none_ OM.out HF.out
         |true=>
          have e1:Op.bytesLess (strOf nm).toList (strOf last).toList=false:=by
           rw[eX,eX,qd]
           cases h9:bytesBefore nm last with
           |false=>rfl
           |true=>
            have h8:=mK _ _ _ hb h9
            rw[Go.WideAt.bytes_irrefl]at h8
            cases h8
          have e2:((strOf nm).toList==(strOf last).toList)=false:=by
           rw[eX,eX]
           have hne:nm≠last:=fun h9=>by rw[h9,Go.WideAt.bytes_irrefl]at hb;cases hb
           simpa using hne
          have UZ:=Lib.hid hb
          clear hb qo
          go_wp2_with fail
          go_roundw
          case rel=>
           refine⟨k+1,t2,nm,acc++[(nm,v)],by go_num,by omega,rfl,?_,fun e he=> ?_,by rw[List.length_append,VD.out];rfl,Vr.out.below FW.out (Nat.le_refl _),?_,Ng.out _ FW.out⟩
           ·rw[←YT.out,show cnt-k=(cnt-(k+1))+1 by omega]
            rw[wC (by rw[←mF.out.2,←HV.out.2];exact HE0.out) (by rw[←mF.out.1];exact HG.out) (by rw[←mF.out.1];exact UZ.out),←mF.out.1,←mF.out.2,←HV.out.1,←HV.out.2]
           ·rcases List.mem_append.1 he with h9|h9
            ·exact .inr (yT UU.out UZ.out e h9)
            ·simp only[List.mem_singleton]at h9
             subst h9
             exact .inl rfl
           ·rw[←II UU.out UZ.out v]
            exact KZ.out.kept (FW.out.block _ KZ.out.lt)
          case measure=>simp[intOf];omega
       ·have hlf:kT t2=t2.1.length:=by unfold kT;rw[if_neg (by simp[he])]
        rw[hlf]at wS
        have glf:((t2.1.length:Int)==0)=false:=beq_eq_false_iff_ne.2 (by omega)
        clear hlf hl0 he
        go_wp2_with fail
        (with_reducible refine wS.out.mono ?_)
        rintro e _ ⟨rfl,rfl⟩
        go_wp2_with fail
        clear glf
        cases hg:dM nm with
        |false=>
         rw[hg]at Rm
         have HF:=Lib.hid (qo.out (.inr (.inl hg)))
         clear hg qo
         (with_reducible refine(Rm.out _).mono ?_)
         rintro e wd ⟨rfl,hbd⟩
         have OM:=Lib.hid (X5.out _ (Ng.out _ hbd))
         clear hbd
         go_wp2_with fail
         go_ret2
         exact lF.none_ OM.out HF.out
        |true=>
         rw[hg]at Rm
         have HG:=Lib.hid hg
         clear hg
         (with_reducible refine(Rm.out _).mono ?_)
         rintro e wd ⟨rfl,hbd⟩
         have FW:=Lib.hid hbd
         clear hbd
         cases hb:bytesBefore last nm with
         |false=>
          have HF:=Lib.hid (qo.out (.inr (.inr hb)))
          have OM:=Lib.hid (X5.out _ (Ng.out _ FW.out))
          clear qo
          by_cases heq:nm=last
          ·subst heq
           have e1:Op.bytesLess (strOf nm).toList (strOf nm).toList=false:=by rw[eX,qd];exact Go.WideAt.bytes_irrefl _
           have e2:((strOf nm).toList==(strOf nm).toList)=true:=by simp
           clear hb
           go_wp2_with fail
           go_ret2
           exact lF.none_ OM.out HF.out
          ·have e1:Op.bytesLess (strOf nm).toList (strOf last).toList=true:=by
            rw[eX,eX,qd]
            rcases Go.WideAt.bytes_total nm last heq with h9|h9
            ·exact h9
            ·rw[hb]at h9;cases h9
           clear hb heq
           go_wp2_with fail
           go_ret2
           exact lF.none_ OM.out HF.out
         |true=>
          have e1:Op.bytesLess (strOf nm).toList (strOf last).toList=false:=by
           rw[eX,eX,qd]
           cases h9:bytesBefore nm last with
           |false=>rfl
           |true=>
            have h8:=mK _ _ _ hb h9
            rw[Go.WideAt.bytes_irrefl]at h8
            cases h8
          have e2:((strOf nm).toList==(strOf last).toList)=false:=by
           rw[eX,eX]
           have hne:nm≠last:=fun h9=>by rw[h9,Go.WideAt.bytes_irrefl]at hb;cases hb
           simpa using hne
          have UZ:=Lib.hid hb
          clear hb qo
          go_wp2_with fail
          go_roundw
          case rel=>
           refine⟨k+1,t2,nm,acc++[(nm,v)],by go_num,by omega,rfl,?_,fun e he=> ?_,by rw[List.length_append,VD.out];rfl,Vr.out.below FW.out (Nat.le_refl _),?_,Ng.out _ FW.out⟩
           ·rw[←YT.out,show cnt-k=(cnt-(k+1))+1 by omega]
            rw[wC (by rw[←mF.out.2,←HV.out.2];exact HE0.out) (by rw[←mF.out.1];exact HG.out) (by rw[←mF.out.1];exact UZ.out),←mF.out.1,←mF.out.2,←HV.out.1,←HV.out.2]
           ·rcases List.mem_append.1 he with h9|h9
            ·exact .inr (yT UU.out UZ.out e h9)
            ·simp only[List.mem_singleton]at h9
             subst h9
             exact .inl rfl
           ·rw[←II UU.out UZ.out v]
            exact KZ.out.kept (FW.out.block _ KZ.out.lt)
          case measure=>simp[intOf];omega
      ·have hlf:kT t2=0:=by unfold kT;rw[if_pos he]
       have hen:nG t2=t2.2:=by unfold nG;rw[if_neg (fun hh=>he hh.1)]
       have HF:=Lib.hid (qo.out (.inl he))
       have g7:(t2.2 !=0)=true:=by simpa using he
       have g8:(t2.2==0)=false:=by simpa using he
       rw[hlf]at wS
       rw[hen]at O9
       have OM:=Lib.hid (X5.out _ HKC.out)
       clear hlf hen he qo
       go_wp2_with fail
       (with_reducible refine wS.out.mono ?_)
       rintro e _ ⟨rfl,rfl⟩
       go_wp2_with fail
       (with_reducible refine O9.out.mono ?_)
       rintro e _ ⟨rfl,rfl⟩
       go_wp2_with fail
       go_ret2
       exact lF.none_ OM.out HF.out
     ·obtain rfl:k=cnt:=by omega
      have HF:Hid (h_ s=some ((id,um ⟨id,kind,links,size,au,closed⟩ b4 acc),sr)):=by
       show _=_
       rw[KO (cnt:=k) (q:=(acc,sr)) mE.out.2.1 (by rw[mE.out.2.2.1,mE.out.1];dsimp only;rw[←HL.out,Rj.out]) (by rw[mE.out.1];exact Gt.out) (by rw[mE.out.2.2.2];exact Gs.out.1) (by rw[mE.out.2.2.2,←Gs.out.2,←YT.out,Nat.sub_self];rfl),mE.out.1,mE.out.2.2.1]
      go_wp2_with fail
      go_ret2
      have C_:=EB.out.lt
      have hsr:=UY.out.size
      refine⟨YM.out.trans UY.out fun z hz hzx=>hzx.resolve_right fun e=>by omega,?_⟩
      rw[HF.out]
      refine⟨w4.heap.size,w7.heap.size,fun b=>w3.drew.heap.size≤b∧b<w4.heap.size,rfl,HRR.out,⟨⟨a4,c4,?_,?_,?_⟩,fun hk=> ?_⟩,by omega,by omega,fun hk=>⟨by omega,by omega,by omega⟩,fun b hb=> ?_⟩
      ·rw[X3.out acc w7.heap.size (.map (some w7.heap.size)) (if_pos (show kind=2 from HK2'.out)).symm]
       exact(UY.out.block _ (by omega) (by omega)).trans HI8.out
      ·show nK b4.length c4
       rw[←HL.out];exact Rc.out
      ·show aj _ wr a4 b4.length _
       rw[←HL.out]
       exact IK.out.kept (by omega) fun b hb hbw=>by
        have h9:w3.heap.size≤b:=hb.1
        have h8:=hb.2
        exact(UY.out.block b (by omega) (by omega)).trans (HOLD.out b hbw (by omega))
      ·exact UW.out
      ·have h9:w3.heap.size≤b:=hb.1
       have h8:=hb.2
       exact⟨by omega,by omega,by omega,fun _=>by omega⟩
  ·have g3:((L:Int)==size)=false:=by simpa using hln
   have g4:((L:Int) !=size)=true:=by simpa using hln
   have HF:Hid (h_ s=none):=by
    show _=_
    unfold h_
    dsimp only
    rw[if_pos]
    right
    rw[←UM.out.1,←HN.out.1,←UM.out.2,←EG.out.1,←HL.out]
    exact hln
   clear hln
   go_quiet (fail)
   go_wp2_with fail
   go_ret2
   exact lF.none_ (qZ _ Db.out) HF.out
 ·have g1:(z==0)=false:=by simpa using hz
  have g2:(z !=0)=true:=by simpa using hz
  have HF:Hid (h_ s=none):=by
   show _=_
   unfold h_
   dsimp only
   rw[if_pos]
   left
   rw[←UM.out.1,←HN.out.2]
   exact hz
  clear hz
  go_quiet (fail)
  go_wp2_with fail
  go_ret2
  exact lF.none_ (qZ _ Db.out) HF.out
end
end Go.Proofs.YtmabllemjkcobaaGreatDoor
