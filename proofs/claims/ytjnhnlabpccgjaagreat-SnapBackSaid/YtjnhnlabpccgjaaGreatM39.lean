/- tree: read, one node of a reader's bytes. -/
import Derived.Test.YtjnhnlabpccgjaaGreatM38
import Derived.Test.YtjnhnlabpccgjaaGreatM08
import Derived.Test.YtjnhnlabpccgjaaGreatM19
import Derived.Test.YtjnhnlabpccgjaaGreatM12
import Derived.Test.YtjnhnlabpccgjaaGreatM05
import Derived.Test.YtjnhnlabpccgjaaGreatM04
import Derived.Deep.QuietTactic
import Derived.BigQuiet
namespace Go.Proofs.YtjnhnlabpccgjaaGreat
open Go.ChangeShapes Go.WideShapes Go.ChangeAt Go.RowKit
set_option linter.unusedVariables false
set_option linter.unusedSimpArgs false
theorem IJ {fp:Nat→Prop} {w w1:World} (h:Keeps fp w w1):Keeps fp w w1.drew:=⟨h.os,h.tape,h.output,h.size,h.block⟩
theorem rR {fp:Nat→Prop} {w w1:World} (n:Nat) (h:Keeps fp w w1):Keeps fp w (w1.drewN n):=⟨h.os,h.tape,h.output,h.size,h.block⟩
theorem jf {fp:Nat→Prop} {w w1 w2:World} (h:Keeps fp w w1) (hb:Below w1.heap.size w1 w2):Keeps fp w w2:=h.trans (Keeps.below hb) fun z hz hz'=>by have:=h.size;omega
theorem wO (s:Rd):(aF s).1.length≤65535:=by
 have hr:=dS s 2
 have hp:(256:Int)^2=65536:=rfl
 unfold aF
 obtain⟨k,hk⟩:∃k:Nat,(aT s 2).1=(k:Int):=⟨(aT s 2).1.toNat,by omega⟩
 rw[hk]
 have:=JR (aT s 2).2 k
 omega
theorem bA.drew {D:Nat→Prop} {w:World} {x:Nat} {s:Rd} (h:bA D w x s):bA D w.drew x s:=h.kept (Nat.le_refl _) rfl fun _ _ _=>rfl
theorem bA.drewN {D:Nat→Prop} {w:World} {x:Nat} {s:Rd} (n:Nat) (h:bA D w x s):bA D (w.drewN n) x s:=h.kept (Nat.le_refl _) rfl fun _ _ _=>rfl
theorem qz:∀a b:List UInt8,Op.bytesLess a b=bytesBefore a b
 |[],[]=>rfl
 |[],_::_=>rfl
 |_::_,[]=>rfl
 |x::r,y::s=>by
  unfold Op.bytesLess bytesBefore
  rw[qz r s]
def lI (D:Nat→Prop) (w:World) (x:Nat) (s:Rd) (e:Ending) (w':World):Prop:=
 Keeps (fun b=>b=x) w w'∧match gY s with
  |none=>∃v,e= .returned (.tuple #[v, .bool false])
  |some q=>∃(i n:Nat) (D2:Nat→Prop),e= .returned (.tuple #[ptr i, .bool true])∧bA D w' x q.2∧iq D2 w' q.1.1 i n q.1.2∧w.heap.size≤i∧i<w'.heap.size∧(q.1.2.kind=2→w.heap.size≤n∧n<w'.heap.size∧i≠n)∧∀b,D2 b→w.heap.size≤b∧b<w'.heap.size∧b≠i∧(q.1.2.kind=2→b≠n)
theorem lI.none_ {D:Nat→Prop} {w w':World} {x:Nat} {s:Rd} {v:Value} (hk:Keeps (fun b=>b=x) w w') (h:gY s=none):lI D w x s (.returned (.tuple #[v, .bool false])) w':=by
 refine⟨hk,?_⟩
 rw[h]
 exact⟨v,rfl⟩
def NmRel (D:Nat→Prop) (w8:World) (x m cnt:Nat) (s0:Rd) (lv iv:Value) (wr:World):Prop:=
 ∃(k:Nat) (sr:Rd) (last:Nm) (acc:List (Nm×Int)),iv= .int .i64 k∧k≤cnt∧lv= .string (strOf last)∧gX (cnt-k) sr last acc=gX cnt s0 [] []∧(∀e∈acc,e.1=last∨bytesBefore e.1 last=true)∧acc.length=k∧bA D wr x sr∧MapAt fM wr m (acc.map fun e=>(e.1, .int .i64 e.2))∧Keeps (fun b=>b=x∨b=m) w8 wr
theorem xB {k:Nat} {s:Rd} {last:Nm} {acc:List (Nm×Int)} (h1:(aT (aF s).2 2).2.2=0) (h2:bV (aF s).1=true) (h3:bytesBefore last (aF s).1=true):
  gX (k+1) s last acc=gX k (aT (aF s).2 2).2 (aF s).1 (acc++[((aF s).1,(aT (aF s).2 2).1)]):=by
 rw[gX]
 rw[if_neg (by rw[h1,h2,h3];simp)]
theorem FM {k:Nat} {s:Rd} {last:Nm} {acc:List (Nm×Int)} (h:(aT (aF s).2 2).2.2≠0∨bV (aF s).1=false∨bytesBefore last (aF s).1=false):gX (k+1) s last acc=none:=by
 rw[gX]
 rw[if_pos h]
theorem Mi {s:Rd} {cnt:Nat} (hd:(bP (aF s).1).2=0) (hl:((aF (aF s).2).1.length:Int)=(bP (aF s).1).1.size) (hk:(bP (aF s).1).1.kind≠1) (hc:(aT (aF (aF s).2).2 2).1=(cnt:Int)) (h:gX cnt (aT (aF (aF s).2).2 2).2 [] []=none):gY s=none:=by
 unfold gY
 dsimp only
 rw[if_neg (by rw[hd,hl];simp),if_neg hk,hc,Int.toNat_natCast,h]
theorem Mj {s:Rd} {cnt:Nat} {q:List (Nm×Int)×Rd} (hd:(bP (aF s).1).2=0) (hl:((aF (aF s).2).1.length:Int)=(bP (aF s).1).1.size) (hk:(bP (aF s).1).1.kind≠1) (hc:(aT (aF (aF s).2).2 2).1=(cnt:Int)) (h:gX cnt (aT (aF (aF s).2).2 2).2 [] []=some q):
  gY s=some (((bP (aF s).1).1.id,uW (bP (aF s).1).1 (aF (aF s).2).1 q.1),q.2):=by
 unfold gY
 dsimp only
 rw[if_neg (by rw[hd,hl];simp),if_neg hk,hc,Int.toNat_natCast,h]
theorem Av {acc:List (Nm×Int)} {last nm:Nm} (h:∀e∈acc,e.1=last∨bytesBefore e.1 last=true) (hb:bytesBefore last nm=true):∀e∈acc,bytesBefore e.1 nm=true:=fun e he=>by
 rcases h e he with h1|h1
 ·rw[h1];exact hb
 ·exact ng _ _ _ h1 hb
theorem JY {acc:List (Nm×Int)} {last nm:Nm} (h:∀e∈acc,e.1=last∨bytesBefore e.1 last=true) (hb:bytesBefore last nm=true) (v:Int):
  bM bytesBefore nm (.int .i64 v:Value) (acc.map fun e=>(e.1,(.int .i64 e.2:Value)))=(acc++[(nm,v)]).map fun e=>(e.1,(.int .i64 e.2:Value)):=by
 rw[Cu bytesBefore _ fun q hq=> ?_]
 ·simp
 ·obtain⟨e,he,rfl⟩:=List.mem_map.1 hq
  have h1:=Av h hb e he
  dsimp only
  refine⟨fun e1=> ?_,?_⟩
  ·rw[e1,Go.WideAt.bytes_irrefl]at h1;cases h1
  ·cases h2:bytesBefore nm e.1 with
   |false=>rfl
   |true=>
    have h3:=ng _ _ _ h1 h2
    rw[Go.WideAt.bytes_irrefl]at h3
    cases h3
section
variable {D:Nat→Prop} {x:Nat} {w:World} {s:Rd}
set_option maxRecDepth 100000 in
set_option maxHeartbeats 16000000 in
theorem Mk (h:bA D w x s):Calls Tryz.prog 56 #[ptr x] w (lI D w x s):=by
 have hxw:=h.lt
 have HB0:=Lib.hid (uZ h)
 have hl1:=wO s
 obtain⟨b1,Tg⟩:∃b,b=(aF s).1:=⟨_,rfl⟩
 obtain⟨s1,W9⟩:∃t,t=(aF s).2:=⟨_,rfl⟩
 rw[←Tg,←W9]at HB0
 rw[←Tg]at hl1
 have uQ:=Lib.hid (And.intro Tg W9)
 clear h Tg W9
 go_enter Tryz.func56,Tryz.ntmps56
 go_wp2_with fail
 (with_reducible refine HB0.out.mono ?_)
 rintro e w1 ⟨a1,c1,rfl,hc1,hr1,mo,hK1⟩
 have sF:=Lib.hid hK1
 have HR1:=Lib.hid mo
 have HD:=Lib.hid (II a1 b1.length c1 b1 w1 (by omega) hr1)
 clear hc1 hr1 mo hK1 HB0
 obtain⟨⟨id,kind,links,size,aP,closed⟩,hN⟩:∃N,N=(bP b1).1:=⟨_,rfl⟩
 obtain⟨z,hz⟩:∃z,z=(bP b1).2:=⟨_,rfl⟩
 rw[←hN,←hz]at HD
 unfold WZ at HD
 dsimp only at HD
 have HN:=Lib.hid (And.intro hN hz)
 clear hN hz
 go_wp2_with fail
 (with_reducible refine HD.out.mono ?_)
 rintro e w2 ⟨rfl,hb2⟩
 have BI:=Lib.hid (jf sF.out hb2)
 have HR2:=Lib.hid (HR1.out.below hb2 (Nat.le_refl _))
 have hx2:x<w2.heap.size:=HR2.out.lt
 clear hb2 HD sF HR1
 go_wp2_with fail
 obtain⟨w3,hw3⟩:∃w3,w3=w2.alloc (.cells #[.int .i64 id, .int .i64 kind, .int .i64 links, .int .i64 size, .int .u64 aP, .bool closed] 101):=⟨_,rfl⟩
 rw[←hw3]
 have QC:w3.heap[w2.heap.size]? =some (.cells #[.int .i64 id, .int .i64 kind, .int .i64 links, .int .i64 size, .int .u64 aP, .bool closed] 101 (0,0)):=by rw[hw3];exact(MapKept.heap_alloc w2 _).1
 have hb3:Below w2.heap.size w2 w3:=by rw[hw3];exact wall w2 _
 have UG:=Lib.hid (jf BI.out hb3)
 have HR3:=Lib.hid (HR2.out.below hb3 (Nat.le_refl _))
 have hvw:=(Array.getElem?_eq_some_iff.1 QC).1
 have XT:Hid (∀w',Keeps (fun b=>b=x) w3 w'→w'.heap[w2.heap.size]? =some (.cells #[.int .i64 id, .int .i64 kind, .int .i64 links, .int .i64 size, .int .u64 aP, .bool closed] 101 (0,0))):=fun w' hK=>(hK.block _ hvw (fun(e:w2.heap.size=x)=>by omega)).trans QC
 have iK:Hid (∀w',Keeps (fun b=>b=x) w3 w'→w'.cell? ⟨w2.heap.size,0,none⟩=some (.int .i64 id)∧w'.cell? ⟨w2.heap.size,1,none⟩=some (.int .i64 kind)∧w'.cell? ⟨w2.heap.size,2,none⟩=some (.int .i64 links)∧w'.cell? ⟨w2.heap.size,3,none⟩=some (.int .i64 size)∧w'.cell? ⟨w2.heap.size,4,none⟩=some (.int .u64 aP)∧w'.cell? ⟨w2.heap.size,5,none⟩=some (.bool closed)):=fun w' hK=>
  ⟨bU (XT.out w' hK) 0,bU (XT.out w' hK) 1,bU (XT.out w' hK) 2,bU (XT.out w' hK) 3,bU (XT.out w' hK) 4,bU (XT.out w' hK) 5⟩
 have hs2:=BI.out.size
 clear hw3 hb3 QC BI HR2
 have HB3:=Lib.hid (uZ HR3.out.drew)
 have hl4:=wO s1
 obtain⟨b4,Ti⟩:∃b,b=(aF s1).1:=⟨_,rfl⟩
 obtain⟨s4,W_⟩:∃t,t=(aF s1).2:=⟨_,rfl⟩
 rw[←Ti,←W_]at HB3
 rw[←Ti]at hl4
 have Gd:=Lib.hid (And.intro Ti W_)
 clear Ti W_ HR3
 obtain⟨L,hL⟩:∃L,L=b4.length:=⟨_,rfl⟩
 have HL:=Lib.hid hL
 rw[←hL]at hl4
 clear hL
 refine Ue ((fun w'=>w'.cell? ⟨w2.heap.size,0,none⟩=some (.int .i64 id)∧w'.cell? ⟨w2.heap.size,1,none⟩=some (.int .i64 kind)∧w'.cell? ⟨w2.heap.size,2,none⟩=some (.int .i64 links)∧w'.cell? ⟨w2.heap.size,3,none⟩=some (.int .i64 size)∧w'.cell? ⟨w2.heap.size,4,none⟩=some (.int .u64 aP)∧w'.cell? ⟨w2.heap.size,5,none⟩=some (.bool closed))) ?_ fun hS=> ?_
 ·exact iK.out _ (IJ (Keeps.refl _ _))
 refine fA 0 hS ?_
 refine fA 1 hS ?_
 refine zi 2 fun K hK=> ?_
 go_simp
 (with_reducible refine HB3.out.mono ?_)
 rintro e w4 ⟨a4,c4,rfl,hc4,hr4,DT,hK4⟩
 have Qm:Hid (Keeps (fun b=>b=x) w3 w4):=⟨hK4.os,hK4.tape,hK4.output,hK4.size,hK4.block⟩
 rw[←HL.out]at hc4 hr4
 rw[←HL.out]
 have JX:=Lib.hid hc4
 have HR4:=Lib.hid hr4
 have Ml:=Lib.hid DT
 have hs4:w3.heap.size≤w4.heap.size:=hK4.size
 clear hc4 hr4 DT hK4 HB3
 go_wp2_with fail
 refine zl hK (iK.out _ Qm.out) fun hS=> ?_
 clear hK K
 refine fA 3 hS ?_
 refine zi 4 fun K hK=> ?_
 go_simp
 refine zl hK (iK.out _ (jf Qm.out (wall w4 _))) fun hS=> ?_
 clear hK K
 refine fA 5 hS ?_
 refine Ud ?_
 obtain⟨w5,LW⟩:∃w5,w5=w4.alloc (.cells #[.int .i64 id, .int .i64 kind, .int .i64 links, .int .i64 size, .int .u64 aP, .bool closed, .slice a4 L c4, .map none] 112):=⟨_,rfl⟩
 rw[←LW]
 have hit:w5.heap[w4.heap.size]? =some (.cells #[.int .i64 id, .int .i64 kind, .int .i64 links, .int .i64 size, .int .u64 aP, .bool closed, .slice a4 L c4, .map none] 112 (0,0)):=by rw[LW];exact(MapKept.heap_alloc w4 _).1
 have hb5:Below w4.heap.size w4 w5:=by rw[LW];exact wall w4 _
 have rW:=Lib.hid hb5
 have HIT:=Lib.hid hit
 have hq5:=iK.out _ (jf Qm.out hb5)
 obtain⟨-,hq1,-,hq3,-,-⟩:=hq5
 have hi6:w5.cell? ⟨w4.heap.size,6,none⟩=some (.slice a4 L c4):=bU hit 6
 have Et:=Lib.hid (UG.out.trans (jf Qm.out hb5) fun b _ hb=>hb)
 have hiw:=(Array.getElem?_eq_some_iff.1 hit).1
 clear LW hit hb5
 go_wp2_with fail
 by_cases hz:z=0
 ·have HZ:=Lib.hid hz
  have g1:(z==0)=true:=by simpa using hz
  have g2:(z !=0)=false:=by simpa using hz
  clear hz
  by_cases hln:(L:Int)=size
  ·have Le:=Lib.hid hln
   have g3:((L:Int)==size)=true:=by simpa using hln
   have g4:((L:Int) !=size)=false:=by simpa using hln
   clear hln
   go_quiet (fail)
   have zo:Keeps (fun b=>b=x) w (w5.drewN nq):=rR nq Et.out
   have Xa:bA D (w5.drewN nq) x s4:=(Ml.out.below rW.out (Nat.le_refl _)).drewN nq
   have Xb:(w5.drewN nq).heap[w4.heap.size]? =some (.cells #[.int .i64 id, .int .i64 kind, .int .i64 links, .int .i64 size, .int .u64 aP, .bool closed, .slice a4 L c4, .map none] 112 (0,0)):=HIT.out
   have UH:ah (fun b=>w3.drew.heap.size≤b∧b<w4.heap.size) (w5.drewN nq) a4 L (b4.map bv):=(HR4.out.below rW.out (Nat.le_refl _)).kept (Nat.le_refl _) fun _ _ _=>rfl
   have hk6:(w5.drewN nq).cell? ⟨w2.heap.size,1,none⟩=some (.int .i64 kind):=hq1
   have hvw6:w2.heap.size<(w5.drewN nq).heap.size:=Nat.lt_of_lt_of_le hvw (Nat.le_trans hs4 rW.out.size)
   clear hq1 hq3 hi6 HIT Et
   generalize w5.drewN nq=w6 at*
   have HS:=Lib.hid (nQ Xa)
   have hrg:=dS s4 2
   obtain⟨cnt,hcnt⟩:∃cnt:Nat,(aT s4 2).1=(cnt:Int):=⟨(aT s4 2).1.toNat,by omega⟩
   have hcb:cnt<65536:=by
    have:(256:Int)^2=65536:=rfl
    omega
   obtain⟨s5,hs5⟩:∃t,t=(aT s4 2).2:=⟨_,rfl⟩
   rw[hcnt,←hs5]at HS
   have IK:=Lib.hid (And.intro hcnt hs5)
   have HROW6:=Lib.hid UH
   have HIT6:=Lib.hid Xb
   have wX:=Lib.hid zo
   have hx6:=Xa.lt
   have hiw6:=(Array.getElem?_eq_some_iff.1 Xb).1
   have hix:w4.heap.size≠x:=by have:=Ml.out.lt;omega
   clear hrg hcnt hs5 UH Xb zo Xa
   go_wp2_with fail
   (with_reducible refine HS.out.mono ?_)
   rintro e w7 ⟨rfl,hR7,XU⟩
   have hvx:w2.heap.size≠x:=by omega
   have hk7:w7.cell? ⟨w2.heap.size,1,none⟩=some (.int .i64 kind):=(World.cell?_of_block (w:=w6) (w':=w7) (a:=⟨w2.heap.size,1,none⟩) (XU.block _ hvw6 hvx)).trans hk6
   have hit7:=(XU.block _ hiw6 hix).trans HIT6.out
   have hs7:=XU.size
   have MX:=Lib.hid (wX.out.trans XU fun b _ hb=>hb)
   have xC:Hid (ah (fun b=>w3.drew.heap.size≤b∧b<w4.heap.size) w7 a4 L (b4.map bv)):=HROW6.out.kept hs7 fun b hb hbw=>XU.block b hbw fun(e:b=x)=>by have:=Ml.out.lt;have:=Qm.out.size;have h9:w3.heap.size≤b:=hb.1;have:=UG.out.size;omega
   have SL:=Lib.hid hR7
   have Tj:=Lib.hid hit7
   have mP:Hid ((bP (aF s).1).1=⟨id,kind,links,size,aP,closed⟩∧(bP (aF s).1).2=0∧(aF (aF s).2).1=b4∧(aF (aF s).2).2=s4):=by
    refine⟨?_,?_,?_,?_⟩
    ·rw[←uQ.out.1,←HN.out.1]
    ·rw[←uQ.out.1,←HN.out.2,HZ.out]
    ·rw[←uQ.out.2,←Gd.out.1]
    ·rw[←uQ.out.2,←Gd.out.2]
   have Tk:=UG.out.size
   have hs34:=hs4
   have hs45:=rW.out.size
   have hitC:∀(l:List (Nm×Int)) (nb:Nat) (v:Value),v=dU (uW ⟨id,kind,links,size,aP,closed⟩ b4 l) nb→gP id (uW ⟨id,kind,links,size,aP,closed⟩ b4 l) a4 c4 nb= #[.int .i64 id, .int .i64 kind, .int .i64 links, .int .i64 size, .int .u64 aP, .bool closed, .slice a4 L c4,v]:=fun l nb v hv=>by
    rw[hv]
    unfold gP uW
    dsimp only
    rw[←HL.out,Le.out]
   have HITC:=Lib.hid hitC
   have HLX:=Ml.out.lt
   clear hR7 XU hit7 hitC HS hk6
   by_cases hk1:kind=1
   ·have g5:(kind==1)=true:=by simpa using hk1
    by_cases hc0:cnt=0
    ·have HF:Hid (gY s=some ((id,uW ⟨id,kind,links,size,aP,closed⟩ b4 []),s5)):=by
      show _=_
      unfold gY
      dsimp only
      rw[mP.out.1,mP.out.2.1,mP.out.2.2.1,mP.out.2.2.2,if_neg (by
       dsimp only
       rw[←HL.out,Le.out]
       simp),if_pos hk1,if_pos (by rw[IK.out.1,hc0];rfl),IK.out.2]
     subst hc0
     have IL:=Lib.hid hk1
     clear hk1
     go_wp2_with fail
     go_ret2
     refine⟨MX.out,?_⟩
     rw[HF.out]
     refine⟨w4.heap.size,0,fun b=>w3.drew.heap.size≤b∧b<w4.heap.size,rfl,SL.out,⟨⟨a4,c4,?_,?_,?_⟩,fun hk=> ?_⟩,by omega,by omega,fun hk=> ?_,fun b hb=> ?_⟩
     ·rw[HITC.out [] 0 (.map none) (if_neg (by show ¬kind=2;rw[IL.out];decide)).symm]
      exact Tj.out
     ·show kV b4.length c4
      rw[←HL.out];exact JX.out
     ·show ah _ w7 a4 b4.length _
      rw[←HL.out];exact xC.out
     ·have h9:kind=2:=hk
      rw[IL.out]at h9;cases h9
     ·have h9:kind=2:=hk
      rw[IL.out]at h9;cases h9
     ·have h9:w3.heap.size≤b:=hb.1
      have h8:=hb.2
      exact⟨by omega,by omega,by omega,fun hk=>by
       have h9:kind=2:=hk
       rw[IL.out]at h9;cases h9⟩
    ·have HF:Hid (gY s=none):=by
      show _=_
      unfold gY
      dsimp only
      rw[mP.out.1,mP.out.2.1,mP.out.2.2.1,mP.out.2.2.2,if_neg (by
       dsimp only
       rw[←HL.out,Le.out]
       simp),if_pos hk1,if_neg (by rw[IK.out.1];omega)]
     have g6:((cnt:Int)==0)=false:=by simpa using hc0
     clear hk1 hc0
     go_wp2_with fail
     go_ret2
     exact lI.none_ MX.out HF.out
   ·have g5:(kind==1)=false:=by simpa using hk1
    have hk2:kind=2:=by
     have h9:=(Aj mP.out.2.1).2.1
     rw[mP.out.1]at h9
     rcases h9 with h9|h9
     ·exact absurd h9.1 hk1
     ·exact h9.1
    have HK2':=Lib.hid hk2
    have IL:=Lib.hid hk1
    have hmm:= @run_makeMap Tryz.prog
    have hf7:w7.frozen? ⟨w4.heap.size,7,none⟩=false:=by simp only[World.frozen?,Tj.out];rfl
    have hc7:w7.cell? ⟨w4.heap.size,7,none⟩=some (.map none):=bU Tj.out 7
    have hlt7:w4.heap.size<w7.heap.size:=Nat.lt_of_lt_of_le hiw6 hs7
    clear hk1 hk2
    go_wp2_with fail
    obtain⟨w8,hw8⟩:∃w8,w8=(w7.setCell ⟨w4.heap.size,7,none⟩ (.map (some w7.heap.size))).alloc (.map #[] 0):=⟨_,rfl⟩
    have Tm:(w7.setCell ⟨w4.heap.size,7,none⟩ (.map (some w7.heap.size))).heap.size=w7.heap.size:=size_set _ _ _
    rw[←hw8]
    have BM:w8.heap.size=w7.heap.size+1:=by rw[hw8,World.size_alloc,Tm]
    have hM8:MapAt fM w8 w7.heap.size []:=by
     have:=MapAt.made (F:=fM) (w7.setCell ⟨w4.heap.size,7,none⟩ (.map (some w7.heap.size)))
     rw[Tm]at this
     rw[hw8]
     exact this
    have hold:∀b,b<w7.heap.size→b≠w4.heap.size→w8.heap[b]? =w7.heap[b]? :=fun b hb hn=>by
     rw[hw8]
     exact((wall _ _).block b (by rw[Tm];exact hb)).trans (aK _ _ _ _ hn)
    have hI8:w8.heap[w4.heap.size]? =some (.cells #[.int .i64 id, .int .i64 kind, .int .i64 links, .int .i64 size, .int .u64 aP, .bool closed, .slice a4 L c4, .map (some w7.heap.size)] 112 (0,0)):=by
     rw[hw8,(wall (w7.setCell ⟨w4.heap.size,7,none⟩ (.map (some w7.heap.size))) _).block _ (by rw[Tm];exact hlt7),aG Tj.out]
     rfl
    have hK8:Keeps (fun b=>b=x) w w8:=by
     have hk:Keeps (fun b=>b=w4.heap.size) w7 w8:=by
      rw[hw8]
      exact jf (Keeps.fq w7 ⟨w4.heap.size,7,none⟩ _) (wall _ _)
     exact⟨hk.os.trans MX.out.os,hk.tape.trans MX.out.tape,hk.output.trans MX.out.output,by have:=MX.out.size;omega,fun b hb hn=>(hold b (by omega) (by omega)).trans (MX.out.block b hb hn)⟩
    have XK:=Lib.hid (SL.out.kept (w1:=w8) (by omega) (hold x (by omega) (by omega)) fun b hb hbw=>hold b hbw (fun e=>by have:=Ml.out.low b hb;omega))
    have Ji:=Lib.hid hM8
    have Lh:=Lib.hid hI8
    have HK8:=Lib.hid hK8
    have HOLD:=Lib.hid hold
    clear hw8 hM8 hI8 hK8 hold hf7 hc7 hmm hk7
    go_loopw [8,46] (fun lv iv wr=>NmRel D w8 x w7.heap.size cnt s5 lv iv wr) (fun _ iv _=>cnt-(intOf iv).toNat)
    case atStart=>exact⟨0,s5,[],[],rfl,Nat.zero_le _,rfl,rfl,fun e he=>(by cases he),rfl,XK.out,Ji.out,Keeps.refl _ _⟩
    case round=>
     obtain⟨k,sr,last,acc,rfl,hk,rfl,hrn,hal,hac,hRr,hMr,hKr⟩:=hrel
     have XO:=Lib.hid hrn
     have MR:=Lib.hid hal
     have XV:=Lib.hid hac
     have HRR:=Lib.hid hRr
     have Xc:=Lib.hid hMr
     have QL:=Lib.hid hKr
     clear hrn hal hac hRr hMr hKr
     by_cases hlt:k<cnt
     ·have hmr:=Xc.out.lt
      have X6:=Ji.out.lt
      have hsr:=QL.out.size
      have Rq:=HRR.out.lt
      have hI:wr.heap[w4.heap.size]? =some (.cells #[.int .i64 id, .int .i64 kind, .int .i64 links, .int .i64 size, .int .u64 aP, .bool closed, .slice a4 L c4, .map (some w7.heap.size)] 112 (0,0)):=(QL.out.block _ (by omega) (by omega)).trans Lh.out
      have HI:=Lib.hid hI
      have MV:=Lib.hid (uZ HRR.out)
      have hnl:=wO sr
      obtain⟨nm,hnm⟩:∃b,b=(aF sr).1:=⟨_,rfl⟩
      obtain⟨t1,ht1⟩:∃t,t=(aF sr).2:=⟨_,rfl⟩
      rw[←hnm,←ht1]at MV
      rw[←hnm]at hnl
      have u_:=Lib.hid (And.intro hnm ht1)
      have DZ:Hid (∀w',Keeps (fun b=>b=x∨b=w7.heap.size) w8 w'→Keeps (fun b=>b=x) w w'):=fun w' hK=>HK8.out.trans hK fun z hz hzx=>hzx.resolve_right fun e=>by omega
      clear hnm ht1 hI
      go_wp2_with fail
      (with_reducible refine MV.out.mono ?_)
      rintro e wa ⟨aa,ca,rfl,hca,hra,hRa,hKa⟩
      have hcv:(convert 23 9 (.slice aa nm.length ca)).run Tryz.prog wa= .ok (.string (strOf nm)) wa:=fK (c:=ca) hra
      have Sk:=Lib.hid hRa
      have HKA:=Lib.hid hKa
      have hsa:=hKa.size
      have HMA:=Lib.hid (Xc.out.kept (hKa.block _ hmr (by omega)))
      have HIA:=Lib.hid ((hKa.block _ (by omega) hix).trans HI.out)
      clear hca hra hRa hKa MV
      go_wp2_with fail
      clear hcv
      have T_:=Lib.hid (nQ Sk.out.drew)
      obtain⟨v,hv⟩:∃v,v=(aT t1 2).1:=⟨_,rfl⟩
      obtain⟨t2,ht2⟩:∃t,t=(aT t1 2).2:=⟨_,rfl⟩
      rw[←hv,←ht2]at T_
      have HV:=Lib.hid (And.intro hv ht2)
      clear hv ht2
      refine qF 7 ((fun w'=>w'.cell? ⟨w4.heap.size,7,none⟩=some (.map (some w7.heap.size)))) ?_ fun hS=> ?_
      ·exact bU HIA.out 7
      refine ak 0 hS ?_
      refine ak 1 hS ?_
      refine ak 2 hS ?_
      refine ak 3 hS ?_
      refine ak 4 hS ?_
      refine ak 5 hS ?_
      refine bK 6 fun K hK=> ?_
      go_simp
      (with_reducible refine T_.out.mono ?_)
      rintro e wb ⟨rfl,hRb,hKb⟩
      have hIb:wb.heap[w4.heap.size]? =some (.cells #[.int .i64 id, .int .i64 kind, .int .i64 links, .int .i64 size, .int .u64 aP, .bool closed, .slice a4 L c4, .map (some w7.heap.size)] 112 (0,0)):=(hKb.block _ (by show w4.heap.size<wa.heap.size;omega) hix).trans HIA.out
      have hMb:MapAt fM wb w7.heap.size (acc.map fun e=>(e.1, .int .i64 e.2)):=HMA.out.kept (hKb.block _ (by show w7.heap.size<wa.heap.size;omega) (by omega))
      have hsb:wa.heap.size≤wb.heap.size:=hKb.size
      have Fe:=Lib.hid hRb
      have HKB:Hid (Keeps (fun b=>b=x) wa wb):=⟨hKb.os,hKb.tape,hKb.output,hKb.size,hKb.block⟩
      clear hRb hKb T_
      go_wp2_with fail
      refine bR hK (bU hIb 7) fun hS=> ?_
      clear hK K
      refine bK 7 fun K hK=> ?_
      go_simp
      obtain⟨wc,hrun,hMc,KN⟩:=hMb.oJ fM Tryz.underlying110 (by rw[List.length_map,XV.out];unfold maxLen;omega) nm (.int .i64 v) (by show nm.length≤maxLen;unfold maxLen;omega)
      have hval:fM.val nm= .string (strOf nm):=rfl
      rw[hval]at hrun
      rw[hrun]
      go_simp
      refine j_ hK ?_
      clear hS hK K
      have hsc:=iC KN
      have MK:=Lib.hid hMc
      have HRC:=Lib.hid (Fe.out.kept (w1:=wc) (by omega) (bX KN x (by have:=Fe.out.lt;omega) (by omega)) fun b hb hbw=>bX KN b hbw (fun e=>by have:=Ml.out.low b hb;omega))
      have HKC:Hid (Keeps (fun b=>b=x∨b=w7.heap.size) w8 wc):=((QL.out.trans HKA.out fun z _ hz=> .inl hz).trans HKB.out fun z _ hz=> .inl hz).trans (Keeps.turned KN) fun z _ hz=> .inr hz
      clear hrun hMc KN hMb hIb hval
      have JZ:=Lib.hid (fun w'=>D_ (strOf nm) w' (by rw[iF];unfold maxLen;omega))
      have hgl:(strOf nm).data.toList=nm:=by simp[strOf]
      rw[hgl]at JZ
      have uJ:=Lib.hid (JV HRC.out)
      have GX:=Lib.hid (DJ HRC.out)
      have qJ:Hid ((t2.2≠0∨bV nm=false∨bytesBefore last nm=false)→gY s=none):=fun hh=>by
       refine Mi (cnt:=cnt) mP.out.2.1 (by rw[mP.out.2.2.1,mP.out.1];dsimp only;rw[←HL.out,Le.out]) (by rw[mP.out.1];exact IL.out) (by rw[mP.out.2.2.2];exact IK.out.1) ?_
       rw[mP.out.2.2.2,←IK.out.2,←XO.out,show cnt-k=(cnt-(k+1))+1 by omega]
       refine FM ?_
       rw[←u_.out.1,←u_.out.2,←HV.out.2]
       exact hh
      clear hgl
      by_cases he:t2.2=0
      ·have hgo:∀w',Below wc.heap.size wc w'→Keeps (fun b=>b=x∨b=w7.heap.size) w8 w':=fun w' hb=>jf HKC.out hb
       have F8:=Lib.hid hgo
       have HE0:=Lib.hid he
       clear hgo
       rcases Nat.eq_zero_or_pos t2.1.length with hl0|hl0
       ·have hlf:iA t2=0:=by unfold iA;rw[if_neg (by simp[he])];exact hl0
        have hen:mO t2=0:=by unfold mO;rw[if_neg (fun hh=>by omega)];exact he
        rw[hlf]at uJ
        rw[hen]at GX
        clear hlf hen hl0 he
        go_wp2_with fail
        (with_reducible refine uJ.out.mono ?_)
        rintro e _ ⟨rfl,rfl⟩
        go_wp2_with fail
        (with_reducible refine GX.out.mono ?_)
        rintro e _ ⟨rfl,rfl⟩
        go_wp2_with fail
        cases hg:bV nm with
        |false=>
         rw[hg]at JZ
         have HF:=Lib.hid (qJ.out (.inr (.inl hg)))
         clear hg qJ
         (with_reducible refine(JZ.out _).mono ?_)
         rintro e wd ⟨rfl,hbd⟩
         have Qn:=Lib.hid (DZ.out _ (F8.out _ hbd))
         clear hbd
         go_wp2_with fail
         go_ret2
         exact lI.none_ Qn.out HF.out
        |true=>
         rw[hg]at JZ
         have HG:=Lib.hid hg
         clear hg
         (with_reducible refine(JZ.out _).mono ?_)
         rintro e wd ⟨rfl,hbd⟩
         have KV:=Lib.hid hbd
         clear hbd
         cases hb:bytesBefore last nm with
         |false=>
          have HF:=Lib.hid (qJ.out (.inr (.inr hb)))
          have Qn:=Lib.hid (DZ.out _ (F8.out _ KV.out))
          clear qJ
          by_cases heq:nm=last
          ·subst heq
           have e1:Op.bytesLess (strOf nm).toList (strOf nm).toList=false:=by rw[dB,qz];exact Go.WideAt.bytes_irrefl _
           have e2:((strOf nm).toList==(strOf nm).toList)=true:=by simp
           clear hb
           go_wp2_with fail
           go_ret2
           exact lI.none_ Qn.out HF.out
          ·have e1:Op.bytesLess (strOf nm).toList (strOf last).toList=true:=by
            rw[dB,dB,qz]
            rcases Go.WideAt.bytes_total nm last heq with h9|h9
            ·exact h9
            ·rw[hb]at h9;cases h9
           clear hb heq
           go_wp2_with fail
           go_ret2
           exact lI.none_ Qn.out HF.out
         |true=>
          have e1:Op.bytesLess (strOf nm).toList (strOf last).toList=false:=by
           rw[dB,dB,qz]
           cases h9:bytesBefore nm last with
           |false=>rfl
           |true=>
            have h8:=ng _ _ _ hb h9
            rw[Go.WideAt.bytes_irrefl]at h8
            cases h8
          have e2:((strOf nm).toList==(strOf last).toList)=false:=by
           rw[dB,dB]
           have hne:nm≠last:=fun h9=>by rw[h9,Go.WideAt.bytes_irrefl]at hb;cases hb
           simpa using hne
          have AP:=Lib.hid hb
          clear hb qJ
          go_wp2_with fail
          go_roundw
          case rel=>
           refine⟨k+1,t2,nm,acc++[(nm,v)],by go_num,by omega,rfl,?_,fun e he=> ?_,by rw[List.length_append,XV.out];rfl,HRC.out.below KV.out (Nat.le_refl _),?_,F8.out _ KV.out⟩
           ·rw[←XO.out,show cnt-k=(cnt-(k+1))+1 by omega]
            rw[xB (by rw[←u_.out.2,←HV.out.2];exact HE0.out) (by rw[←u_.out.1];exact HG.out) (by rw[←u_.out.1];exact AP.out),←u_.out.1,←u_.out.2,←HV.out.1,←HV.out.2]
           ·rcases List.mem_append.1 he with h9|h9
            ·exact .inr (Av MR.out AP.out e h9)
            ·simp only[List.mem_singleton]at h9
             subst h9
             exact .inl rfl
           ·rw[←JY MR.out AP.out v]
            exact MK.out.kept (KV.out.block _ MK.out.lt)
          case measure=>simp[intOf];omega
       ·have hlf:iA t2=t2.1.length:=by unfold iA;rw[if_neg (by simp[he])]
        rw[hlf]at uJ
        have glf:((t2.1.length:Int)==0)=false:=beq_eq_false_iff_ne.2 (by omega)
        clear hlf hl0 he
        go_wp2_with fail
        (with_reducible refine uJ.out.mono ?_)
        rintro e _ ⟨rfl,rfl⟩
        go_wp2_with fail
        clear glf
        cases hg:bV nm with
        |false=>
         rw[hg]at JZ
         have HF:=Lib.hid (qJ.out (.inr (.inl hg)))
         clear hg qJ
         (with_reducible refine(JZ.out _).mono ?_)
         rintro e wd ⟨rfl,hbd⟩
         have Qn:=Lib.hid (DZ.out _ (F8.out _ hbd))
         clear hbd
         go_wp2_with fail
         go_ret2
         exact lI.none_ Qn.out HF.out
        |true=>
         rw[hg]at JZ
         have HG:=Lib.hid hg
         clear hg
         (with_reducible refine(JZ.out _).mono ?_)
         rintro e wd ⟨rfl,hbd⟩
         have KV:=Lib.hid hbd
         clear hbd
         cases hb:bytesBefore last nm with
         |false=>
          have HF:=Lib.hid (qJ.out (.inr (.inr hb)))
          have Qn:=Lib.hid (DZ.out _ (F8.out _ KV.out))
          clear qJ
          by_cases heq:nm=last
          ·subst heq
           have e1:Op.bytesLess (strOf nm).toList (strOf nm).toList=false:=by rw[dB,qz];exact Go.WideAt.bytes_irrefl _
           have e2:((strOf nm).toList==(strOf nm).toList)=true:=by simp
           clear hb
           go_wp2_with fail
           go_ret2
           exact lI.none_ Qn.out HF.out
          ·have e1:Op.bytesLess (strOf nm).toList (strOf last).toList=true:=by
            rw[dB,dB,qz]
            rcases Go.WideAt.bytes_total nm last heq with h9|h9
            ·exact h9
            ·rw[hb]at h9;cases h9
           clear hb heq
           go_wp2_with fail
           go_ret2
           exact lI.none_ Qn.out HF.out
         |true=>
          have e1:Op.bytesLess (strOf nm).toList (strOf last).toList=false:=by
           rw[dB,dB,qz]
           cases h9:bytesBefore nm last with
           |false=>rfl
           |true=>
            have h8:=ng _ _ _ hb h9
            rw[Go.WideAt.bytes_irrefl]at h8
            cases h8
          have e2:((strOf nm).toList==(strOf last).toList)=false:=by
           rw[dB,dB]
           have hne:nm≠last:=fun h9=>by rw[h9,Go.WideAt.bytes_irrefl]at hb;cases hb
           simpa using hne
          have AP:=Lib.hid hb
          clear hb qJ
          go_wp2_with fail
          go_roundw
          case rel=>
           refine⟨k+1,t2,nm,acc++[(nm,v)],by go_num,by omega,rfl,?_,fun e he=> ?_,by rw[List.length_append,XV.out];rfl,HRC.out.below KV.out (Nat.le_refl _),?_,F8.out _ KV.out⟩
           ·rw[←XO.out,show cnt-k=(cnt-(k+1))+1 by omega]
            rw[xB (by rw[←u_.out.2,←HV.out.2];exact HE0.out) (by rw[←u_.out.1];exact HG.out) (by rw[←u_.out.1];exact AP.out),←u_.out.1,←u_.out.2,←HV.out.1,←HV.out.2]
           ·rcases List.mem_append.1 he with h9|h9
            ·exact .inr (Av MR.out AP.out e h9)
            ·simp only[List.mem_singleton]at h9
             subst h9
             exact .inl rfl
           ·rw[←JY MR.out AP.out v]
            exact MK.out.kept (KV.out.block _ MK.out.lt)
          case measure=>simp[intOf];omega
      ·have hlf:iA t2=0:=by unfold iA;rw[if_pos he]
       have hen:mO t2=t2.2:=by unfold mO;rw[if_neg (fun hh=>he hh.1)]
       have HF:=Lib.hid (qJ.out (.inl he))
       have g7:(t2.2 !=0)=true:=by simpa using he
       have g8:(t2.2==0)=false:=by simpa using he
       rw[hlf]at uJ
       rw[hen]at GX
       have Qn:=Lib.hid (DZ.out _ HKC.out)
       clear hlf hen he qJ
       go_wp2_with fail
       (with_reducible refine uJ.out.mono ?_)
       rintro e _ ⟨rfl,rfl⟩
       go_wp2_with fail
       (with_reducible refine GX.out.mono ?_)
       rintro e _ ⟨rfl,rfl⟩
       go_wp2_with fail
       go_ret2
       exact lI.none_ Qn.out HF.out
     ·obtain rfl:k=cnt:=by omega
      have HF:Hid (gY s=some ((id,uW ⟨id,kind,links,size,aP,closed⟩ b4 acc),sr)):=by
       show _=_
       rw[Mj (cnt:=k) (q:=(acc,sr)) mP.out.2.1 (by rw[mP.out.2.2.1,mP.out.1];dsimp only;rw[←HL.out,Le.out]) (by rw[mP.out.1];exact IL.out) (by rw[mP.out.2.2.2];exact IK.out.1) (by rw[mP.out.2.2.2,←IK.out.2,←XO.out,Nat.sub_self];rfl),mP.out.1,mP.out.2.2.1]
      go_wp2_with fail
      go_ret2
      have X6:=Ji.out.lt
      have hsr:=QL.out.size
      refine⟨HK8.out.trans QL.out fun z hz hzx=>hzx.resolve_right fun e=>by omega,?_⟩
      rw[HF.out]
      refine⟨w4.heap.size,w7.heap.size,fun b=>w3.drew.heap.size≤b∧b<w4.heap.size,rfl,HRR.out,⟨⟨a4,c4,?_,?_,?_⟩,fun hk=> ?_⟩,by omega,by omega,fun hk=>⟨by omega,by omega,by omega⟩,fun b hb=> ?_⟩
      ·rw[HITC.out acc w7.heap.size (.map (some w7.heap.size)) (if_pos (show kind=2 from HK2'.out)).symm]
       exact(QL.out.block _ (by omega) (by omega)).trans Lh.out
      ·show kV b4.length c4
       rw[←HL.out];exact JX.out
      ·show ah _ wr a4 b4.length _
       rw[←HL.out]
       exact xC.out.kept (by omega) fun b hb hbw=>by
        have h9:w3.heap.size≤b:=hb.1
        have h8:=hb.2
        exact(QL.out.block b (by omega) (by omega)).trans (HOLD.out b hbw (by omega))
      ·exact Xc.out
      ·have h9:w3.heap.size≤b:=hb.1
       have h8:=hb.2
       exact⟨by omega,by omega,by omega,fun _=>by omega⟩
  ·have g3:((L:Int)==size)=false:=by simpa using hln
   have g4:((L:Int) !=size)=true:=by simpa using hln
   have HF:Hid (gY s=none):=by
    show _=_
    unfold gY
    dsimp only
    rw[if_pos]
    right
    rw[←uQ.out.1,←HN.out.1,←uQ.out.2,←Gd.out.1,←HL.out]
    exact hln
   clear hln
   go_quiet (fail)
   go_wp2_with fail
   go_ret2
   exact lI.none_ (rR _ Et.out) HF.out
 ·have g1:(z==0)=false:=by simpa using hz
  have g2:(z !=0)=true:=by simpa using hz
  have HF:Hid (gY s=none):=by
   show _=_
   unfold gY
   dsimp only
   rw[if_pos]
   left
   rw[←uQ.out.1,←HN.out.2]
   exact hz
  clear hz
  go_quiet (fail)
  go_wp2_with fail
  go_ret2
  exact lI.none_ (rR _ Et.out) HF.out
end
end Go.Proofs.YtjnhnlabpccgjaaGreat
