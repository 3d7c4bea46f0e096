/- tree: read, one node of a reader's bytes. -/
import Derived.Test.YtohpcppeajijnaaGreatM39
import Derived.Test.YtohpcppeajijnaaGreatM40
import Derived.Test.YtohpcppeajijnaaGreatM10
import Derived.Test.YtohpcppeajijnaaGreatM30
import Derived.Test.YtohpcppeajijnaaGreatM20
import Derived.Test.YtohpcppeajijnaaGreatM06
import Derived.Test.YtohpcppeajijnaaGreatM05
import Derived.Deep.QuietTactic
import Derived.BigQuiet
namespace Go.Proofs.YtohpcppeajijnaaGreat
open Go.ChangeShapes Go.WideShapes Go.ChangeAt Go.RowKit
set_option linter.unusedVariables false
set_option linter.unusedSimpArgs false
theorem D5 {fp:Nat→Prop} {w w1:World} (h:Keeps fp w w1):Keeps fp w w1.drew:=⟨h.os,h.tape,h.output,h.size,h.block⟩
theorem qh {fp:Nat→Prop} {w w1:World} (n:Nat) (h:Keeps fp w w1):Keeps fp w (w1.drewN n):=⟨h.os,h.tape,h.output,h.size,h.block⟩
theorem iQ {fp:Nat→Prop} {w w1 w2:World} (h:Keeps fp w w1) (hb:Below w1.heap.size w1 w2):Keeps fp w w2:=h.trans (Keeps.below hb) fun z hz hz'=>by have:=h.size;omega
theorem uH (s:Rd):(aP s).1.length≤65535:=by
 have hr:=fE s 2
 have hp:(256:Int)^2=65536:=rfl
 unfold aP
 obtain⟨k,hk⟩:∃k:Nat,(bQ s 2).1=(k:Int):=⟨(bQ s 2).1.toNat,by omega⟩
 rw[hk]
 have:=EU (bQ s 2).2 k
 omega
theorem bJ.drew {D:Nat→Prop} {w:World} {x:Nat} {s:Rd} (h:bJ D w x s):bJ D w.drew x s:=h.kept (Nat.le_refl _) rfl fun _ _ _=>rfl
theorem bJ.drewN {D:Nat→Prop} {w:World} {x:Nat} {s:Rd} (n:Nat) (h:bJ D w x s):bJ D (w.drewN n) x s:=h.kept (Nat.le_refl _) rfl fun _ _ _=>rfl
theorem oF:∀a b:List UInt8,Op.bytesLess a b=bytesBefore a b
 |[],[]=>rfl
 |[],_::_=>rfl
 |_::_,[]=>rfl
 |x::r,y::s=>by
  unfold Op.bytesLess bytesBefore
  rw[oF r s]
def kD (D:Nat→Prop) (w:World) (x:Nat) (s:Rd) (e:Ending) (w':World):Prop:=
 Keeps (fun b=>b=x) w w'∧match gU s with
  |none=>∃v,e= .returned (.tuple #[v, .bool false])
  |some q=>∃(i n:Nat) (D2:Nat→Prop),e= .returned (.tuple #[ptr i, .bool true])∧bJ D w' x q.2∧iG D2 w' q.1.1 i n q.1.2∧w.heap.size≤i∧i<w'.heap.size∧(q.1.2.kind=2→w.heap.size≤n∧n<w'.heap.size∧i≠n)∧∀b,D2 b→w.heap.size≤b∧b<w'.heap.size∧b≠i∧(q.1.2.kind=2→b≠n)
theorem kD.none_ {D:Nat→Prop} {w w':World} {x:Nat} {s:Rd} {v:Value} (hk:Keeps (fun b=>b=x) w w') (h:gU s=none):kD D w x s (.returned (.tuple #[v, .bool false])) w':=by
 refine⟨hk,?_⟩
 rw[h]
 exact⟨v,rfl⟩
def QN (D:Nat→Prop) (w8:World) (x m cnt:Nat) (s0:Rd) (lv iv:Value) (wr:World):Prop:=
 ∃(k:Nat) (sr:Rd) (last:Nm) (acc:List (Nm×Int)),iv= .int .i64 k∧k≤cnt∧lv= .string (strOf last)∧gT (cnt-k) sr last acc=gT cnt s0 [] []∧(∀e∈acc,e.1=last∨bytesBefore e.1 last=true)∧acc.length=k∧bJ D wr x sr∧MapAt cK wr m (acc.map fun e=>(e.1, .int .i64 e.2))∧Keeps (fun b=>b=x∨b=m) w8 wr
theorem vg {k:Nat} {s:Rd} {last:Nm} {acc:List (Nm×Int)} (h1:(bQ (aP s).2 2).2.2=0) (h2:bZ (aP s).1=true) (h3:bytesBefore last (aP s).1=true):
  gT (k+1) s last acc=gT k (bQ (aP s).2 2).2 (aP s).1 (acc++[((aP s).1,(bQ (aP s).2 2).1)]):=by
 rw[gT]
 rw[if_neg (by rw[h1,h2,h3];simp)]
theorem Cv {k:Nat} {s:Rd} {last:Nm} {acc:List (Nm×Int)} (h:(bQ (aP s).2 2).2.2≠0∨bZ (aP s).1=false∨bytesBefore last (aP s).1=false):gT (k+1) s last acc=none:=by
 rw[gT]
 rw[if_pos h]
theorem Gw {s:Rd} {cnt:Nat} (hd:(bW (aP s).1).2=0) (hl:((aP (aP s).2).1.length:Int)=(bW (aP s).1).1.size) (hk:(bW (aP s).1).1.kind≠1) (hc:(bQ (aP (aP s).2).2 2).1=(cnt:Int)) (h:gT cnt (bQ (aP (aP s).2).2 2).2 [] []=none):gU s=none:=by
 unfold gU
 dsimp only
 rw[if_neg (by rw[hd,hl];simp),if_neg hk,hc,Int.toNat_natCast,h]
theorem Gx {s:Rd} {cnt:Nat} {q:List (Nm×Int)×Rd} (hd:(bW (aP s).1).2=0) (hl:((aP (aP s).2).1.length:Int)=(bW (aP s).1).1.size) (hk:(bW (aP s).1).1.kind≠1) (hc:(bQ (aP (aP s).2).2 2).1=(cnt:Int)) (h:gT cnt (bQ (aP (aP s).2).2 2).2 [] []=some q):
  gU s=some (((bW (aP s).1).1.id,sS (bW (aP s).1).1 (aP (aP s).2).1 q.1),q.2):=by
 unfold gU
 dsimp only
 rw[if_neg (by rw[hd,hl];simp),if_neg hk,hc,Int.toNat_natCast,h]
theorem xL {acc:List (Nm×Int)} {last nm:Nm} (h:∀e∈acc,e.1=last∨bytesBefore e.1 last=true) (hb:bytesBefore last nm=true):∀e∈acc,bytesBefore e.1 nm=true:=fun e he=>by
 rcases h e he with h1|h1
 ·rw[h1];exact hb
 ·exact lX _ _ _ h1 hb
theorem E9 {acc:List (Nm×Int)} {last nm:Nm} (h:∀e∈acc,e.1=last∨bytesBefore e.1 last=true) (hb:bytesBefore last nm=true) (v:Int):
  bT bytesBefore nm (.int .i64 v:Value) (acc.map fun e=>(e.1,(.int .i64 e.2:Value)))=(acc++[(nm,v)]).map fun e=>(e.1,(.int .i64 e.2:Value)):=by
 rw[zJ bytesBefore _ fun q hq=> ?_]
 ·simp
 ·obtain⟨e,he,rfl⟩:=List.mem_map.1 hq
  have h1:=xL h hb e he
  dsimp only
  refine⟨fun e1=> ?_,?_⟩
  ·rw[e1,Go.WideAt.bytes_irrefl]at h1;cases h1
  ·cases h2:bytesBefore nm e.1 with
   |false=>rfl
   |true=>
    have h3:=lX _ _ _ h1 h2
    rw[Go.WideAt.bytes_irrefl]at h3
    cases h3
section
variable {D:Nat→Prop} {x:Nat} {w:World} {s:Rd}
set_option maxRecDepth 100000 in
set_option maxHeartbeats 16000000 in
theorem Gy (h:bJ D w x s):Calls Tryz.prog 111 #[ptr x] w (kD D w x s):=by
 have hxw:=h.lt
 have HB0:=Lib.hid (xB h)
 have hl1:=uH s
 obtain⟨b1,LG⟩:∃b,b=(aP s).1:=⟨_,rfl⟩
 obtain⟨s1,OE⟩:∃t,t=(aP s).2:=⟨_,rfl⟩
 rw[←LG,←OE]at HB0
 rw[←LG]at hl1
 have OG:=Lib.hid (And.intro LG OE)
 clear h LG OE
 go_enter Tryz.func111,Tryz.ntmps111
 go_wp2_with fail
 (with_reducible refine HB0.out.mono ?_)
 rintro e w1 ⟨a1,c1,rfl,hc1,hr1,mM,hK1⟩
 have nk:=Lib.hid hK1
 have HR1:=Lib.hid mM
 have HD:=Lib.hid (DV a1 b1.length c1 b1 w1 (by omega) hr1)
 clear hc1 hr1 mM hK1 HB0
 obtain⟨⟨id,kind,links,size,aK,closed⟩,hN⟩:∃N,N=(bW b1).1:=⟨_,rfl⟩
 obtain⟨z,hz⟩:∃z,z=(bW b1).2:=⟨_,rfl⟩
 rw[←hN,←hz]at HD
 unfold OD at HD
 dsimp only at HD
 have HN:=Lib.hid (And.intro hN hz)
 clear hN hz
 go_wp2_with fail
 (with_reducible refine HD.out.mono ?_)
 rintro e w2 ⟨rfl,hb2⟩
 have Cz:=Lib.hid (iQ nk.out hb2)
 have HR2:=Lib.hid (HR1.out.below hb2 (Nat.le_refl _))
 have hx2:x<w2.heap.size:=HR2.out.lt
 clear hb2 HD nk HR1
 go_wp2_with fail
 obtain⟨w3,hw3⟩:∃w3,w3=w2.alloc (.cells #[.int .i64 id, .int .i64 kind, .int .i64 links, .int .i64 size, .int .u64 aK, .bool closed] 98):=⟨_,rfl⟩
 rw[←hw3]
 have Un:w3.heap[w2.heap.size]? =some (.cells #[.int .i64 id, .int .i64 kind, .int .i64 links, .int .i64 size, .int .u64 aK, .bool closed] 98 (0,0)):=by rw[hw3];exact(MapKept.heap_alloc w2 _).1
 have hb3:Below w2.heap.size w2 w3:=by rw[hw3];exact wall w2 _
 have MF:=Lib.hid (iQ Cz.out hb3)
 have HR3:=Lib.hid (HR2.out.below hb3 (Nat.le_refl _))
 have hvw:=(Array.getElem?_eq_some_iff.1 Un).1
 have Pv:Hid (∀w',Keeps (fun b=>b=x) w3 w'→w'.heap[w2.heap.size]? =some (.cells #[.int .i64 id, .int .i64 kind, .int .i64 links, .int .i64 size, .int .u64 aK, .bool closed] 98 (0,0))):=fun w' hK=>(hK.block _ hvw (fun(e:w2.heap.size=x)=>by omega)).trans Un
 have jR:Hid (∀w',Keeps (fun b=>b=x) w3 w'→w'.cell? ⟨w2.heap.size,0,none⟩=some (.int .i64 id)∧w'.cell? ⟨w2.heap.size,1,none⟩=some (.int .i64 kind)∧w'.cell? ⟨w2.heap.size,2,none⟩=some (.int .i64 links)∧w'.cell? ⟨w2.heap.size,3,none⟩=some (.int .i64 size)∧w'.cell? ⟨w2.heap.size,4,none⟩=some (.int .u64 aK)∧w'.cell? ⟨w2.heap.size,5,none⟩=some (.bool closed)):=fun w' hK=>
  ⟨fH (Pv.out w' hK) 0,fH (Pv.out w' hK) 1,fH (Pv.out w' hK) 2,fH (Pv.out w' hK) 3,fH (Pv.out w' hK) 4,fH (Pv.out w' hK) 5⟩
 have hs2:=Cz.out.size
 clear hw3 hb3 Un Cz HR2
 have HB3:=Lib.hid (xB HR3.out.drew)
 have hl4:=uH s1
 obtain⟨b4,LH⟩:∃b,b=(aP s1).1:=⟨_,rfl⟩
 obtain⟨s4,OH⟩:∃t,t=(aP s1).2:=⟨_,rfl⟩
 rw[←LH,←OH]at HB3
 rw[←LH]at hl4
 have CQ:=Lib.hid (And.intro LH OH)
 clear LH OH HR3
 obtain⟨L,hL⟩:∃L,L=b4.length:=⟨_,rfl⟩
 have HL:=Lib.hid hL
 rw[←hL]at hl4
 clear hL
 refine wp_region_noPanic ?_
 refine wp_region_held_drew (S:=(fun w'=>w'.cell? ⟨w2.heap.size,0,none⟩=some (.int .i64 id)∧w'.cell? ⟨w2.heap.size,1,none⟩=some (.int .i64 kind)∧w'.cell? ⟨w2.heap.size,2,none⟩=some (.int .i64 links)∧w'.cell? ⟨w2.heap.size,3,none⟩=some (.int .i64 size)∧w'.cell? ⟨w2.heap.size,4,none⟩=some (.int .u64 aK)∧w'.cell? ⟨w2.heap.size,5,none⟩=some (.bool closed))) (by kernel_rfl) ?_ (fun hS=> ?_)
 ·exact jR.out _ (D5 (Keeps.refl _ _))
 refine aS 0 (hS:=hS) (h:= ?_)
 refine aS 1 (hS:=hS) (h:= ?_)
 refine p9 2 (h:=fun K hK=> ?_)
 go_simp
 (with_reducible refine HB3.out.mono ?_)
 rintro e w4 ⟨a4,c4,rfl,hc4,hr4,GQ,hK4⟩
 have JE:Hid (Keeps (fun b=>b=x) w3 w4):=⟨hK4.os,hK4.tape,hK4.output,hK4.size,hK4.block⟩
 rw[←HL.out]at hc4 hr4
 rw[←HL.out]
 have Pp:=Lib.hid hc4
 have HR4:=Lib.hid hr4
 have Gz:=Lib.hid GQ
 have hs4:w3.heap.size≤w4.heap.size:=hK4.size
 clear hc4 hr4 GQ hK4 HB3
 go_wp2_with fail
 refine hK.out _ _ (jR.out _ JE.out) (fun hS=> ?_)
 clear hK K
 try simp only[Act.put,List.setIfInBounds_toArray,List.set_cons_zero,List.set_cons_succ]
 refine aS 3 (hS:=hS) (h:= ?_)
 refine p9 4 (h:=fun K hK=> ?_)
 go_simp
 refine hK.out _ _ (jR.out _ (iQ JE.out (wall w4 _))) (fun hS=> ?_)
 clear hK K
 try simp only[Act.put,List.setIfInBounds_toArray,List.set_cons_zero,List.set_cons_succ]
 refine aS 5 (hS:=hS) (h:= ?_)
 refine wpAnyH_done (by kernel_rfl) ?_ _
 refine NoPanic.normal ?_
 obtain⟨w5,RD⟩:∃w5,w5=w4.alloc (.cells #[.int .i64 id, .int .i64 kind, .int .i64 links, .int .i64 size, .int .u64 aK, .bool closed, .slice a4 L c4, .map none] 109):=⟨_,rfl⟩
 rw[←RD]
 have hit:w5.heap[w4.heap.size]? =some (.cells #[.int .i64 id, .int .i64 kind, .int .i64 links, .int .i64 size, .int .u64 aK, .bool closed, .slice a4 L c4, .map none] 109 (0,0)):=by rw[RD];exact(MapKept.heap_alloc w4 _).1
 have hb5:Below w4.heap.size w4 w5:=by rw[RD];exact wall w4 _
 have iR:=Lib.hid hb5
 have HIT:=Lib.hid hit
 have Ak:=jR.out _ (iQ JE.out hb5)
 obtain⟨-,hq1,-,hq3,-,-⟩:=Ak
 have XZ:w5.cell? ⟨w4.heap.size,6,none⟩=some (.slice a4 L c4):=fH hit 6
 have Fz:=Lib.hid (MF.out.trans (iQ JE.out hb5) fun b _ hb=>hb)
 have hiw:=(Array.getElem?_eq_some_iff.1 hit).1
 clear RD hit hb5
 go_wp2_with fail
 by_cases hz:z=0
 ·have HZ:=Lib.hid hz
  have g1:(z==0)=true:=by simpa using hz
  have g2:(z !=0)=false:=by simpa using hz
  clear hz
  by_cases hln:(L:Int)=size
  ·have JV:=Lib.hid hln
   have g3:((L:Int)==size)=true:=by simpa using hln
   have g4:((L:Int) !=size)=false:=by simpa using hln
   clear hln
   go_quiet (fail)
   have zf:Keeps (fun b=>b=x) w (w5.drewN nq):=qh nq Fz.out
   have OI:bJ D (w5.drewN nq) x s4:=(Gz.out.below iR.out (Nat.le_refl _)).drewN nq
   have OJ:(w5.drewN nq).heap[w4.heap.size]? =some (.cells #[.int .i64 id, .int .i64 kind, .int .i64 links, .int .i64 size, .int .u64 aK, .bool closed, .slice a4 L c4, .map none] 109 (0,0)):=HIT.out
   have MG:av (fun b=>w3.drew.heap.size≤b∧b<w4.heap.size) (w5.drewN nq) a4 L (b4.map bv):=(HR4.out.below iR.out (Nat.le_refl _)).kept (Nat.le_refl _) fun _ _ _=>rfl
   have VE:(w5.drewN nq).cell? ⟨w2.heap.size,1,none⟩=some (.int .i64 kind):=hq1
   have Uo:w2.heap.size<(w5.drewN nq).heap.size:=Nat.lt_of_lt_of_le hvw (Nat.le_trans hs4 iR.out.size)
   clear hq1 hq3 XZ HIT Fz
   generalize w5.drewN nq=w6 at*
   have HS:=Lib.hid (mD OI)
   have hrg:=fE s4 2
   obtain⟨cnt,hcnt⟩:∃cnt:Nat,(bQ s4 2).1=(cnt:Int):=⟨(bQ s4 2).1.toNat,by omega⟩
   have hcb:cnt<65536:=by
    have:(256:Int)^2=65536:=rfl
    omega
   obtain⟨s5,hs5⟩:∃t,t=(bQ s4 2).2:=⟨_,rfl⟩
   rw[hcnt,←hs5]at HS
   have D6:=Lib.hid (And.intro hcnt hs5)
   have QO:=Lib.hid MG
   have Uq:=Lib.hid OJ
   have oL:=Lib.hid zf
   have hx6:=OI.lt
   have QS:=(Array.getElem?_eq_some_iff.1 OJ).1
   have hix:w4.heap.size≠x:=by have:=Gz.out.lt;omega
   clear hrg hcnt hs5 MG OJ zf OI
   go_wp2_with fail
   (with_reducible refine HS.out.mono ?_)
   rintro e w7 ⟨rfl,VF,Pw⟩
   have X0:w2.heap.size≠x:=by omega
   have X3:w7.cell? ⟨w2.heap.size,1,none⟩=some (.int .i64 kind):=(World.cell?_of_block (w:=w6) (w':=w7) (a:=⟨w2.heap.size,1,none⟩) (Pw.block _ Uo X0)).trans VE
   have QT:=(Pw.block _ QS hix).trans Uq.out
   have hs7:=Pw.size
   have OL:=Lib.hid (oL.out.trans Pw fun b _ hb=>hb)
   have MH:Hid (av (fun b=>w3.drew.heap.size≤b∧b<w4.heap.size) w7 a4 L (b4.map bv)):=QO.out.kept hs7 fun b hb hbw=>Pw.block b hbw fun(e:b=x)=>by have:=Gz.out.lt;have:=JE.out.size;have h9:w3.heap.size≤b:=hb.1;have:=MF.out.size;omega
   have RA:=Lib.hid VF
   have LJ:=Lib.hid QT
   have lH:Hid ((bW (aP s).1).1=⟨id,kind,links,size,aK,closed⟩∧(bW (aP s).1).2=0∧(aP (aP s).2).1=b4∧(aP (aP s).2).2=s4):=by
    refine⟨?_,?_,?_,?_⟩
    ·rw[←OG.out.1,←HN.out.1]
    ·rw[←OG.out.1,←HN.out.2,HZ.out]
    ·rw[←OG.out.2,←CQ.out.1]
    ·rw[←OG.out.2,←CQ.out.2]
   have X4:=MF.out.size
   have X5:=hs4
   have X6:=iR.out.size
   have QU:∀(l:List (Nm×Int)) (nb:Nat) (v:Value),v=fJ (sS ⟨id,kind,links,size,aK,closed⟩ b4 l) nb→iF id (sS ⟨id,kind,links,size,aK,closed⟩ b4 l) a4 c4 nb= #[.int .i64 id, .int .i64 kind, .int .i64 links, .int .i64 size, .int .u64 aK, .bool closed, .slice a4 L c4,v]:=fun l nb v hv=>by
    rw[hv]
    unfold iF sS
    dsimp only
    rw[←HL.out,JV.out]
   have QV:=Lib.hid QU
   have Zd:=Gz.out.lt
   clear VF Pw QT QU HS VE
   by_cases hk1:kind=1
   ·have g5:(kind==1)=true:=by simpa using hk1
    by_cases hc0:cnt=0
    ·have HF:Hid (gU s=some ((id,sS ⟨id,kind,links,size,aK,closed⟩ b4 []),s5)):=by
      show _=_
      unfold gU
      dsimp only
      rw[lH.out.1,lH.out.2.1,lH.out.2.2.1,lH.out.2.2.2,if_neg (by
       dsimp only
       rw[←HL.out,JV.out]
       simp),if_pos hk1,if_pos (by rw[D6.out.1,hc0];rfl),D6.out.2]
     subst hc0
     have D7:=Lib.hid hk1
     clear hk1
     go_wp2_with fail
     go_ret2
     refine⟨OL.out,?_⟩
     rw[HF.out]
     refine⟨w4.heap.size,0,fun b=>w3.drew.heap.size≤b∧b<w4.heap.size,rfl,RA.out,⟨⟨a4,c4,?_,?_,?_⟩,fun hk=> ?_⟩,by omega,by omega,fun hk=> ?_,fun b hb=> ?_⟩
     ·rw[QV.out [] 0 (.map none) (if_neg (by show ¬kind=2;rw[D7.out];decide)).symm]
      exact LJ.out
     ·show kH b4.length c4
      rw[←HL.out];exact Pp.out
     ·show av _ w7 a4 b4.length _
      rw[←HL.out];exact MH.out
     ·have h9:kind=2:=hk
      rw[D7.out]at h9;cases h9
     ·have h9:kind=2:=hk
      rw[D7.out]at h9;cases h9
     ·have h9:w3.heap.size≤b:=hb.1
      have h8:=hb.2
      exact⟨by omega,by omega,by omega,fun hk=>by
       have h9:kind=2:=hk
       rw[D7.out]at h9;cases h9⟩
    ·have HF:Hid (gU s=none):=by
      show _=_
      unfold gU
      dsimp only
      rw[lH.out.1,lH.out.2.1,lH.out.2.2.1,lH.out.2.2.2,if_neg (by
       dsimp only
       rw[←HL.out,JV.out]
       simp),if_pos hk1,if_neg (by rw[D6.out.1];omega)]
     have g6:((cnt:Int)==0)=false:=by simpa using hc0
     clear hk1 hc0
     go_wp2_with fail
     go_ret2
     exact kD.none_ OL.out HF.out
   ·have g5:(kind==1)=false:=by simpa using hk1
    have hk2:kind=2:=by
     have h9:=(xC lH.out.2.1).2.1
     rw[lH.out.1]at h9
     rcases h9 with h9|h9
     ·exact absurd h9.1 hk1
     ·exact h9.1
    have Ur:=Lib.hid hk2
    have D7:=Lib.hid hk1
    have hmm:= @run_makeMap Tryz.prog
    have X7:w7.frozen? ⟨w4.heap.size,7,none⟩=false:=by simp only[World.frozen?,LJ.out];rfl
    have X8:w7.cell? ⟨w4.heap.size,7,none⟩=some (.map none):=fH LJ.out 7
    have Us:w4.heap.size<w7.heap.size:=Nat.lt_of_lt_of_le QS hs7
    clear hk1 hk2
    go_wp2_with fail
    obtain⟨w8,hw8⟩:∃w8,w8=(w7.setCell ⟨w4.heap.size,7,none⟩ (.map (some w7.heap.size))).alloc (.map #[] 0):=⟨_,rfl⟩
    have LK:(w7.setCell ⟨w4.heap.size,7,none⟩ (.map (some w7.heap.size))).heap.size=w7.heap.size:=size_set _ _ _
    rw[←hw8]
    have mH:w8.heap.size=w7.heap.size+1:=by rw[hw8,World.size_alloc,LK]
    have VG:MapAt cK w8 w7.heap.size []:=by
     have:=MapAt.made (F:=cK) (w7.setCell ⟨w4.heap.size,7,none⟩ (.map (some w7.heap.size)))
     rw[LK]at this
     rw[hw8]
     exact this
    have hold:∀b,b<w7.heap.size→b≠w4.heap.size→w8.heap[b]? =w7.heap[b]? :=fun b hb hn=>by
     rw[hw8]
     exact((wall _ _).block b (by rw[LK];exact hb)).trans (bH _ _ _ _ hn)
    have VH:w8.heap[w4.heap.size]? =some (.cells #[.int .i64 id, .int .i64 kind, .int .i64 links, .int .i64 size, .int .u64 aK, .bool closed, .slice a4 L c4, .map (some w7.heap.size)] 109 (0,0)):=by
     rw[hw8,(wall (w7.setCell ⟨w4.heap.size,7,none⟩ (.map (some w7.heap.size))) _).block _ (by rw[LK];exact Us),bY LJ.out]
     rfl
    have VI:Keeps (fun b=>b=x) w w8:=by
     have hk:Keeps (fun b=>b=w4.heap.size) w7 w8:=by
      rw[hw8]
      exact iQ (Keeps.iC w7 ⟨w4.heap.size,7,none⟩ _) (wall _ _)
     exact⟨hk.os.trans OL.out.os,hk.tape.trans OL.out.tape,hk.output.trans OL.out.output,by have:=OL.out.size;omega,fun b hb hn=>(hold b (by omega) (by omega)).trans (OL.out.block b hb hn)⟩
    have KN:=Lib.hid (RA.out.kept (w1:=w8) (by omega) (hold x (by omega) (by omega)) fun b hb hbw=>hold b hbw (fun e=>by have:=Gz.out.low b hb;omega))
    have J2:=Lib.hid VG
    have I5:=Lib.hid VH
    have VJ:=Lib.hid VI
    have HOLD:=Lib.hid hold
    clear hw8 VG VH VI hold X7 X8 hmm X3
    go_loopw [8,46] (fun lv iv wr=>QN D w8 x w7.heap.size cnt s5 lv iv wr) (fun _ iv _=>cnt-(intOf iv).toNat)
    case atStart=>exact⟨0,s5,[],[],rfl,Nat.zero_le _,rfl,rfl,fun e he=>(by cases he),rfl,KN.out,J2.out,Keeps.refl _ _⟩
    case round=>
     obtain⟨k,sr,last,acc,rfl,hk,rfl,hrn,hal,hac,hRr,VK,hKr⟩:=hrel
     have KY:=Lib.hid hrn
     have OM:=Lib.hid hal
     have Px:=Lib.hid hac
     have HRR:=Lib.hid hRr
     have Ut:=Lib.hid VK
     have OO:=Lib.hid hKr
     clear hrn hal hac hRr VK hKr
     by_cases hlt:k<cnt
     ·have hmr:=Ut.out.lt
      have QC:=J2.out.lt
      have hsr:=OO.out.size
      have XK:=HRR.out.lt
      have hI:wr.heap[w4.heap.size]? =some (.cells #[.int .i64 id, .int .i64 kind, .int .i64 links, .int .i64 size, .int .u64 aK, .bool closed, .slice a4 L c4, .map (some w7.heap.size)] 109 (0,0)):=(OO.out.block _ (by omega) (by omega)).trans I5.out
      have HI:=Lib.hid hI
      have Uu:=Lib.hid (xB HRR.out)
      have hnl:=uH sr
      obtain⟨nm,hnm⟩:∃b,b=(aP sr).1:=⟨_,rfl⟩
      obtain⟨t1,ht1⟩:∃t,t=(aP sr).2:=⟨_,rfl⟩
      rw[←hnm,←ht1]at Uu
      rw[←hnm]at hnl
      have lM:=Lib.hid (And.intro hnm ht1)
      have GR:Hid (∀w',Keeps (fun b=>b=x∨b=w7.heap.size) w8 w'→Keeps (fun b=>b=x) w w'):=fun w' hK=>VJ.out.trans hK fun z hz hzx=>hzx.resolve_right fun e=>by omega
      clear hnm ht1 hI
      go_wp2_with fail
      (with_reducible refine Uu.out.mono ?_)
      rintro e wa ⟨aa,ca,rfl,hca,hra,VL,hKa⟩
      have hcv:(convert 39 9 (.slice aa nm.length ca)).run Tryz.prog wa= .ok (.string (strOf nm)) wa:=dK (c:=ca) hra
      have X9:=Lib.hid VL
      have X_:=Lib.hid hKa
      have hsa:=hKa.size
      have Ya:=Lib.hid (Ut.out.kept (hKa.block _ hmr (by omega)))
      have VN:=Lib.hid ((hKa.block _ (by omega) hix).trans HI.out)
      clear hca hra VL hKa Uu
      go_wp2_with fail
      clear hcv
      have IE:=Lib.hid (mD X9.out.drew)
      obtain⟨v,hv⟩:∃v,v=(bQ t1 2).1:=⟨_,rfl⟩
      obtain⟨t2,ht2⟩:∃t,t=(bQ t1 2).2:=⟨_,rfl⟩
      rw[←hv,←ht2]at IE
      have HV:=Lib.hid (And.intro hv ht2)
      clear hv ht2
      refine wp_region_noPanic ?_
      refine dQ (last:=7) (S:=(fun w'=>w'.cell? ⟨w4.heap.size,7,none⟩=some (.map (some w7.heap.size)))) (by kernel_rfl) ?_ (fun hS=> ?_)
      ·exact fH VN.out 7
      refine bf 0 (hS:=hS) (h:= ?_)
      refine bf 1 (hS:=hS) (h:= ?_)
      refine bf 2 (hS:=hS) (h:= ?_)
      refine bf 3 (hS:=hS) (h:= ?_)
      refine bf 4 (hS:=hS) (h:= ?_)
      refine bf 5 (hS:=hS) (h:= ?_)
      refine mP 6 (h:=fun K hK=> ?_)
      go_simp
      (with_reducible refine IE.out.mono ?_)
      rintro e wb ⟨rfl,hRb,hKb⟩
      have VO:wb.heap[w4.heap.size]? =some (.cells #[.int .i64 id, .int .i64 kind, .int .i64 links, .int .i64 size, .int .u64 aK, .bool closed, .slice a4 L c4, .map (some w7.heap.size)] 109 (0,0)):=(hKb.block _ (by show w4.heap.size<wa.heap.size;omega) hix).trans VN.out
      have VP:MapAt cK wb w7.heap.size (acc.map fun e=>(e.1, .int .i64 e.2)):=Ya.out.kept (hKb.block _ (by show w7.heap.size<wa.heap.size;omega) (by omega))
      have hsb:wa.heap.size≤wb.heap.size:=hKb.size
      have VQ:=Lib.hid hRb
      have Vk:Hid (Keeps (fun b=>b=x) wa wb):=⟨hKb.os,hKb.tape,hKb.output,hKb.size,hKb.block⟩
      clear hRb hKb IE
      go_wp2_with fail
      refine hK.out _ _ (fun _=>fH VO 7) (fun hS=> ?_)
      replace hS:=hS (by decide)
      clear hK K
      try simp only[Act.put,List.setIfInBounds_toArray,List.set_cons_zero,List.set_cons_succ]
      refine mP 7 (h:=fun K hK=> ?_)
      go_simp
      obtain⟨wc,hrun,VR,QW⟩:=VP.ql cK Tryz.underlying107 (by rw[List.length_map,Px.out];unfold maxLen;omega) nm (.int .i64 v) (by show nm.length≤maxLen;unfold maxLen;omega)
      have hval:cK.val nm= .string (strOf nm):=rfl
      rw[hval]at hrun
      rw[hrun]
      go_simp
      refine hK.out _ _ (fun h=>absurd rfl h) (fun hS=> ?_)
      clear hS hK K
      try simp only[Act.put,List.setIfInBounds_toArray,List.set_cons_zero,List.set_cons_succ]
      refine bA (by kernel_rfl) ?_ _
      refine NoPanic.normal ?_
      have hsc:=iq QW
      have Ld:=Lib.hid VR
      have RF:=Lib.hid (VQ.out.kept (w1:=wc) (by omega) (dD QW x (by have:=VQ.out.lt;omega) (by omega)) fun b hb hbw=>dD QW b hbw (fun e=>by have:=Gz.out.low b hb;omega))
      have VT:Hid (Keeps (fun b=>b=x∨b=w7.heap.size) w8 wc):=((OO.out.trans X_.out fun z _ hz=> .inl hz).trans Vk.out fun z _ hz=> .inl hz).trans (Keeps.turned QW) fun z _ hz=> .inr hz
      clear hrun VR QW VP VO hval
      have LM:=Lib.hid (fun w'=>AU (strOf nm) w' (by rw[fF];unfold maxLen;omega))
      have hgl:(strOf nm).data.toList=nm:=by simp[strOf]
      rw[hgl]at LM
      have J3:=Lib.hid (Lu RF.out)
      have FI:=Lib.hid (DR RF.out)
      have oQ:Hid ((t2.2≠0∨bZ nm=false∨bytesBefore last nm=false)→gU s=none):=fun hh=>by
       refine Gw (cnt:=cnt) lH.out.2.1 (by rw[lH.out.2.2.1,lH.out.1];dsimp only;rw[←HL.out,JV.out]) (by rw[lH.out.1];exact D7.out) (by rw[lH.out.2.2.2];exact D6.out.1) ?_
       rw[lH.out.2.2.2,←D6.out.2,←KY.out,show cnt-k=(cnt-(k+1))+1 by omega]
       refine Cv ?_
       rw[←lM.out.1,←lM.out.2,←HV.out.2]
       exact hh
      clear hgl
      by_cases he:t2.2=0
      ·have hgo:∀w',Below wc.heap.size wc w'→Keeps (fun b=>b=x∨b=w7.heap.size) w8 w':=fun w' hb=>iQ VT.out hb
       have AA:=Lib.hid hgo
       have VU:=Lib.hid he
       clear hgo
       rcases Nat.eq_zero_or_pos t2.1.length with hl0|hl0
       ·have hlf:qd t2=0:=by unfold qd;rw[if_neg (by simp[he])];exact hl0
        have hen:nQ t2=0:=by unfold nQ;rw[if_neg (fun hh=>by omega)];exact he
        rw[hlf]at J3
        rw[hen]at FI
        clear hlf hen hl0 he
        go_wp2_with fail
        (with_reducible refine J3.out.mono ?_)
        rintro e _ ⟨rfl,rfl⟩
        go_wp2_with fail
        (with_reducible refine FI.out.mono ?_)
        rintro e _ ⟨rfl,rfl⟩
        go_wp2_with fail
        cases hg:bZ nm with
        |false=>
         rw[hg]at LM
         have HF:=Lib.hid (oQ.out (.inr (.inl hg)))
         clear hg oQ
         (with_reducible refine(LM.out _).mono ?_)
         rintro e wd ⟨rfl,hbd⟩
         have JF:=Lib.hid (GR.out _ (AA.out _ hbd))
         clear hbd
         go_wp2_with fail
         go_ret2
         exact kD.none_ JF.out HF.out
        |true=>
         rw[hg]at LM
         have HG:=Lib.hid hg
         clear hg
         (with_reducible refine(LM.out _).mono ?_)
         rintro e wd ⟨rfl,hbd⟩
         have LP:=Lib.hid hbd
         clear hbd
         cases hb:bytesBefore last nm with
         |false=>
          have HF:=Lib.hid (oQ.out (.inr (.inr hb)))
          have JF:=Lib.hid (GR.out _ (AA.out _ LP.out))
          clear oQ
          by_cases heq:nm=last
          ·subst heq
           have e1:Op.bytesLess (strOf nm).toList (strOf nm).toList=false:=by rw[dA,oF];exact Go.WideAt.bytes_irrefl _
           have e2:((strOf nm).toList==(strOf nm).toList)=true:=by simp
           clear hb
           go_wp2_with fail
           go_ret2
           exact kD.none_ JF.out HF.out
          ·have e1:Op.bytesLess (strOf nm).toList (strOf last).toList=true:=by
            rw[dA,dA,oF]
            rcases Go.WideAt.bytes_total nm last heq with h9|h9
            ·exact h9
            ·rw[hb]at h9;cases h9
           clear hb heq
           go_wp2_with fail
           go_ret2
           exact kD.none_ JF.out HF.out
         |true=>
          have e1:Op.bytesLess (strOf nm).toList (strOf last).toList=false:=by
           rw[dA,dA,oF]
           cases h9:bytesBefore nm last with
           |false=>rfl
           |true=>
            have h8:=lX _ _ _ hb h9
            rw[Go.WideAt.bytes_irrefl]at h8
            cases h8
          have e2:((strOf nm).toList==(strOf last).toList)=false:=by
           rw[dA,dA]
           have hne:nm≠last:=fun h9=>by rw[h9,Go.WideAt.bytes_irrefl]at hb;cases hb
           simpa using hne
          have KR:=Lib.hid hb
          clear hb oQ
          go_wp2_with fail
          go_roundw
          case rel=>
           refine⟨k+1,t2,nm,acc++[(nm,v)],by go_num,by omega,rfl,?_,fun e he=> ?_,by rw[List.length_append,Px.out];rfl,RF.out.below LP.out (Nat.le_refl _),?_,AA.out _ LP.out⟩
           ·rw[←KY.out,show cnt-k=(cnt-(k+1))+1 by omega]
            rw[vg (by rw[←lM.out.2,←HV.out.2];exact VU.out) (by rw[←lM.out.1];exact HG.out) (by rw[←lM.out.1];exact KR.out),←lM.out.1,←lM.out.2,←HV.out.1,←HV.out.2]
           ·rcases List.mem_append.1 he with h9|h9
            ·exact .inr (xL OM.out KR.out e h9)
            ·simp only[List.mem_singleton]at h9
             subst h9
             exact .inl rfl
           ·rw[←E9 OM.out KR.out v]
            exact Ld.out.kept (LP.out.block _ Ld.out.lt)
          case measure=>simp[intOf];omega
       ·have hlf:qd t2=t2.1.length:=by unfold qd;rw[if_neg (by simp[he])]
        rw[hlf]at J3
        have Yb:((t2.1.length:Int)==0)=false:=beq_eq_false_iff_ne.2 (by omega)
        clear hlf hl0 he
        go_wp2_with fail
        (with_reducible refine J3.out.mono ?_)
        rintro e _ ⟨rfl,rfl⟩
        go_wp2_with fail
        clear Yb
        cases hg:bZ nm with
        |false=>
         rw[hg]at LM
         have HF:=Lib.hid (oQ.out (.inr (.inl hg)))
         clear hg oQ
         (with_reducible refine(LM.out _).mono ?_)
         rintro e wd ⟨rfl,hbd⟩
         have JF:=Lib.hid (GR.out _ (AA.out _ hbd))
         clear hbd
         go_wp2_with fail
         go_ret2
         exact kD.none_ JF.out HF.out
        |true=>
         rw[hg]at LM
         have HG:=Lib.hid hg
         clear hg
         (with_reducible refine(LM.out _).mono ?_)
         rintro e wd ⟨rfl,hbd⟩
         have LP:=Lib.hid hbd
         clear hbd
         cases hb:bytesBefore last nm with
         |false=>
          have HF:=Lib.hid (oQ.out (.inr (.inr hb)))
          have JF:=Lib.hid (GR.out _ (AA.out _ LP.out))
          clear oQ
          by_cases heq:nm=last
          ·subst heq
           have e1:Op.bytesLess (strOf nm).toList (strOf nm).toList=false:=by rw[dA,oF];exact Go.WideAt.bytes_irrefl _
           have e2:((strOf nm).toList==(strOf nm).toList)=true:=by simp
           clear hb
           go_wp2_with fail
           go_ret2
           exact kD.none_ JF.out HF.out
          ·have e1:Op.bytesLess (strOf nm).toList (strOf last).toList=true:=by
            rw[dA,dA,oF]
            rcases Go.WideAt.bytes_total nm last heq with h9|h9
            ·exact h9
            ·rw[hb]at h9;cases h9
           clear hb heq
           go_wp2_with fail
           go_ret2
           exact kD.none_ JF.out HF.out
         |true=>
          have e1:Op.bytesLess (strOf nm).toList (strOf last).toList=false:=by
           rw[dA,dA,oF]
           cases h9:bytesBefore nm last with
           |false=>rfl
           |true=>
            have h8:=lX _ _ _ hb h9
            rw[Go.WideAt.bytes_irrefl]at h8
            cases h8
          have e2:((strOf nm).toList==(strOf last).toList)=false:=by
           rw[dA,dA]
           have hne:nm≠last:=fun h9=>by rw[h9,Go.WideAt.bytes_irrefl]at hb;cases hb
           simpa using hne
          have KR:=Lib.hid hb
          clear hb oQ
          go_wp2_with fail
          go_roundw
          case rel=>
           refine⟨k+1,t2,nm,acc++[(nm,v)],by go_num,by omega,rfl,?_,fun e he=> ?_,by rw[List.length_append,Px.out];rfl,RF.out.below LP.out (Nat.le_refl _),?_,AA.out _ LP.out⟩
           ·rw[←KY.out,show cnt-k=(cnt-(k+1))+1 by omega]
            rw[vg (by rw[←lM.out.2,←HV.out.2];exact VU.out) (by rw[←lM.out.1];exact HG.out) (by rw[←lM.out.1];exact KR.out),←lM.out.1,←lM.out.2,←HV.out.1,←HV.out.2]
           ·rcases List.mem_append.1 he with h9|h9
            ·exact .inr (xL OM.out KR.out e h9)
            ·simp only[List.mem_singleton]at h9
             subst h9
             exact .inl rfl
           ·rw[←E9 OM.out KR.out v]
            exact Ld.out.kept (LP.out.block _ Ld.out.lt)
          case measure=>simp[intOf];omega
      ·have hlf:qd t2=0:=by unfold qd;rw[if_pos he]
       have hen:nQ t2=t2.2:=by unfold nQ;rw[if_neg (fun hh=>he hh.1)]
       have HF:=Lib.hid (oQ.out (.inl he))
       have g7:(t2.2 !=0)=true:=by simpa using he
       have g8:(t2.2==0)=false:=by simpa using he
       rw[hlf]at J3
       rw[hen]at FI
       have JF:=Lib.hid (GR.out _ VT.out)
       clear hlf hen he oQ
       go_wp2_with fail
       (with_reducible refine J3.out.mono ?_)
       rintro e _ ⟨rfl,rfl⟩
       go_wp2_with fail
       (with_reducible refine FI.out.mono ?_)
       rintro e _ ⟨rfl,rfl⟩
       go_wp2_with fail
       go_ret2
       exact kD.none_ JF.out HF.out
     ·obtain rfl:k=cnt:=by omega
      have HF:Hid (gU s=some ((id,sS ⟨id,kind,links,size,aK,closed⟩ b4 acc),sr)):=by
       show _=_
       rw[Gx (cnt:=k) (q:=(acc,sr)) lH.out.2.1 (by rw[lH.out.2.2.1,lH.out.1];dsimp only;rw[←HL.out,JV.out]) (by rw[lH.out.1];exact D7.out) (by rw[lH.out.2.2.2];exact D6.out.1) (by rw[lH.out.2.2.2,←D6.out.2,←KY.out,Nat.sub_self];rfl),lH.out.1,lH.out.2.2.1]
      go_wp2_with fail
      go_ret2
      have QC:=J2.out.lt
      have hsr:=OO.out.size
      refine⟨VJ.out.trans OO.out fun z hz hzx=>hzx.resolve_right fun e=>by omega,?_⟩
      rw[HF.out]
      refine⟨w4.heap.size,w7.heap.size,fun b=>w3.drew.heap.size≤b∧b<w4.heap.size,rfl,HRR.out,⟨⟨a4,c4,?_,?_,?_⟩,fun hk=> ?_⟩,by omega,by omega,fun hk=>⟨by omega,by omega,by omega⟩,fun b hb=> ?_⟩
      ·rw[QV.out acc w7.heap.size (.map (some w7.heap.size)) (if_pos (show kind=2 from Ur.out)).symm]
       exact(OO.out.block _ (by omega) (by omega)).trans I5.out
      ·show kH b4.length c4
       rw[←HL.out];exact Pp.out
      ·show av _ wr a4 b4.length _
       rw[←HL.out]
       exact MH.out.kept (by omega) fun b hb hbw=>by
        have h9:w3.heap.size≤b:=hb.1
        have h8:=hb.2
        exact(OO.out.block b (by omega) (by omega)).trans (HOLD.out b hbw (by omega))
      ·exact Ut.out
      ·have h9:w3.heap.size≤b:=hb.1
       have h8:=hb.2
       exact⟨by omega,by omega,by omega,fun _=>by omega⟩
  ·have g3:((L:Int)==size)=false:=by simpa using hln
   have g4:((L:Int) !=size)=true:=by simpa using hln
   have HF:Hid (gU s=none):=by
    show _=_
    unfold gU
    dsimp only
    rw[if_pos]
    right
    rw[←OG.out.1,←HN.out.1,←OG.out.2,←CQ.out.1,←HL.out]
    exact hln
   clear hln
   go_quiet (fail)
   go_wp2_with fail
   go_ret2
   exact kD.none_ (qh _ Fz.out) HF.out
 ·have g1:(z==0)=false:=by simpa using hz
  have g2:(z !=0)=true:=by simpa using hz
  have HF:Hid (gU s=none):=by
   show _=_
   unfold gU
   dsimp only
   rw[if_pos]
   left
   rw[←OG.out.1,←HN.out.2]
   exact hz
  clear hz
  go_quiet (fail)
  go_wp2_with fail
  go_ret2
  exact kD.none_ (qh _ Fz.out) HF.out
end
end Go.Proofs.YtohpcppeajijnaaGreat
