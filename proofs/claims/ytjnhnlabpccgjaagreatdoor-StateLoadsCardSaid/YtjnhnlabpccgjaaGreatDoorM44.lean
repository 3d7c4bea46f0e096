/- tree -/
import Derived.Test.YtjnhnlabpccgjaaGreatDoorM43
import Derived.Test.YtjnhnlabpccgjaaGreatDoorM08
import Derived.Test.YtjnhnlabpccgjaaGreatDoorM19
import Derived.Test.YtjnhnlabpccgjaaGreatDoorM12
import Derived.Test.YtjnhnlabpccgjaaGreatDoorM05
import Derived.Test.YtjnhnlabpccgjaaGreatDoorM04
import Derived.Deep.QuietTactic
import Derived.BigQuiet
set_option maxRecDepth 100000
set_option maxHeartbeats 64000000
set_option linter.all false
namespace Go.Proofs.YtjnhnlabpccgjaaGreatDoor
open Go.ChangeShapes Go.WideShapes Go.ChangeAt Go.RowKit
theorem NK{fp:Nat→Prop}{w w1:World}(h:Keeps fp w w1):Keeps fp w w1.drew:=⟨h.os,h.tape,h.output,h.size,h.block⟩
theorem vY{fp:Nat→Prop}{w w1:World}(n:Nat)(h:Keeps fp w w1):Keeps fp w (w1.drewN n):=⟨h.os,h.tape,h.output,h.size,h.block⟩
theorem kJ{fp:Nat→Prop}{w w1 w2:World}(h:Keeps fp w w1)(hb:Below w1.heap.size w1 w2):Keeps fp w w2:=h.trans (Keeps.below hb) fun z hz hz'=>by have:=h.size;omega
theorem AQ(s:Rd):(aL s).1.length≤65535:=by
 have hr:=eD s 2;have hp:(256:Int)^2=65536:=rfl;unfold aL;obtain⟨k,hk⟩:∃k:Nat,(bq s 2).1=(k:Int):=⟨(bq s 2).1.toNat,by omega⟩;rw[hk];have:=Pp (bq s 2).2 k;omega
theorem bO.drew{D:Nat→Prop}{w:World}{x:Nat}{s:Rd}(h:bO D w x s):bO D w.drew x s:=h.kept acu rfl fun _ _ _=>rfl
theorem bO.drewN{D:Nat→Prop}{w:World}{x:Nat}{s:Rd}(n:Nat)(h:bO D w x s):bO D (w.drewN n) x s:=h.kept acu rfl fun _ _ _=>rfl
theorem uy:∀a b:List UInt8,Op.bytesLess a b=bytesBefore a b
 |[],[]=>rfl
 |[],_::_=>rfl
 |_::_,[]=>rfl
 |x::r,y::s=>by
  unfold Op.bytesLess bytesBefore;rw[uy r s]
def nT(D:Nat→Prop)(w:World)(x:Nat)(s:Rd)(e:Ending)(w':World):Prop:=
 Keeps (fun b=>b=x) w w'∧match jq s with
  |none=>∃v,e= .returned (.tuple #[v,.bool false])
  |some q=>∃(i n:Nat) (D2:Nat→Prop),e= .returned (.tuple #[ptr i,.bool true])∧bO D w' x q.2∧jD D2 w' q.1.1 i n q.1.2∧w.heap.size≤i∧i<w'.heap.size∧(q.1.2.kind=2→w.heap.size≤n∧n<w'.heap.size∧i≠n)∧∀b,D2 b→w.heap.size≤b∧b<w'.heap.size∧b≠i∧(q.1.2.kind=2→b≠n)
theorem nT.none_{D:Nat→Prop}{w w':World}{x:Nat}{s:Rd}{v:Value}(hk:Keeps (fun b=>b=x) w w')(h:jq s=none):nT D w x s (.returned (.tuple #[v,.bool false])) w':=by
 refine⟨hk,?_⟩;rw[h];exact⟨v,rfl⟩
def NmRel(D:Nat→Prop)(w8:World)(x m cnt:Nat)(s0:Rd)(lv iv:Value)(wr:World):Prop:=
 ∃(k:Nat) (sr:Rd) (last:Nm) (acc:List (Nm×Int)),iv= .int .i64 k∧k≤cnt∧lv= .string (strOf last)∧jo (cnt-k) sr last acc=jo cnt s0 [] []∧(∀e∈acc,e.1=last∨bytesBefore e.1 last=true)∧acc.length=k∧bO D wr x sr∧MapAt iq wr m (acc.map fun e=>(e.1,.int .i64 e.2))∧Keeps (fun b=>b=x∨b=m) w8 wr
theorem BH{k:Nat}{s:Rd}{last:Nm}{acc:List (Nm×Int)}(h1:(bq (aL s).2 2).2.2=0)(h2:bT (aL s).1=true)(h3:bytesBefore last (aL s).1=true):
  jo (k+1) s last acc=jo k (bq (aL s).2 2).2 (aL s).1 (acc++[((aL s).1,(bq (aL s).2 2).1)]):=by
 rw[jo];rw[if_neg (by rw[h1,h2,h3];simp)]
theorem KZ{k:Nat}{s:Rd}{last:Nm}{acc:List (Nm×Int)}(h:(bq (aL s).2 2).2.2≠0∨bT (aL s).1=false∨bytesBefore last (aL s).1=false):jo (k+1) s last acc=none:=by
 rw[jo];rw[if_pos h]
theorem Sc{s:Rd}{cnt:Nat}(hd:(dx (aL s).1).2=0)(hl:((aL (aL s).2).1.length:Int)=(dx (aL s).1).1.size)(hk:(dx (aL s).1).1.kind≠1)(hc:(bq (aL (aL s).2).2 2).1=(cnt:Int))(h:jo cnt (bq (aL (aL s).2).2 2).2 [] []=none):jq s=none:=by
 unfold jq;dsimp only;rw[if_neg (by rw[hd,hl];simp),if_neg hk,hc,aa2,h]
theorem Sd{s:Rd}{cnt:Nat}{q:List (Nm×Int)×Rd}(hd:(dx (aL s).1).2=0)(hl:((aL (aL s).2).1.length:Int)=(dx (aL s).1).1.size)(hk:(dx (aL s).1).1.kind≠1)(hc:(bq (aL (aL s).2).2 2).1=(cnt:Int))(h:jo cnt (bq (aL (aL s).2).2 2).2 [] []=some q):
  jq s=some (((dx (aL s).1).1.id,zJ (dx (aL s).1).1 (aL (aL s).2).1 q.1),q.2):=by
 unfold jq;dsimp only;rw[if_neg (by rw[hd,hl];simp),if_neg hk,hc,aa2,h]
theorem EB{acc:List (Nm×Int)}{last nm:Nm}(h:∀e∈acc,e.1=last∨bytesBefore e.1 last=true)(hb:bytesBefore last nm=true):∀e∈acc,bytesBefore e.1 nm=true:=fun e he=>by
 rcases h e he with h1|h1
 ·rw[h1];exact hb
 ·exact qd _ _ _ h1 hb
theorem Pw{acc:List (Nm×Int)}{last nm:Nm}(h:∀e∈acc,e.1=last∨bytesBefore e.1 last=true)(hb:bytesBefore last nm=true)(v:Int):
  b_ bytesBefore nm (.int .i64 v:Value) (acc.map fun e=>(e.1,(.int .i64 e.2:Value)))=(acc++[(nm,v)]).map fun e=>(e.1,(.int .i64 e.2:Value)):=by
 rw[GL bytesBefore _ fun q hq=> ?_]
 ·simp
 ·obtain⟨e,he,rfl⟩:=List.mem_map.1 hq;have h1:=EB h hb e he;dsimp only;refine⟨fun e1=> ?_,?_⟩
  ·rw[e1,aaZ]at h1;cases h1
  ·cases h2:bytesBefore nm e.1 with
   |false=>rfl
   |true=>
    have h3:=qd _ _ _ h1 h2;rw[aaZ]at h3;cases h3
section
variable{D:Nat→Prop}{x:Nat}{w:World}{s:Rd}
theorem Sg(h:bO D w x s):Calls Tryz.prog 129 #[ptr x] w (nT D w x s):=by
 have hxw:=h.lt;have HB0:=acr (zL h);have hl1:=AQ s;obtain⟨b1,Y6⟩:∃b,b=(aL s).1:=⟨_,rfl⟩;obtain⟨s1,hs1e⟩:∃t,t=(aL s).2:=⟨_,rfl⟩;rw[←Y6,←hs1e]at HB0;rw[←Y6]at hl1;have BX:=acr (And.intro Y6 hs1e);clear h Y6 hs1e;go_enter Tryz.func129,Tryz.ntmps129;go_wp2_with fail;refine HB0.o.mono ?_;rintro e w1 ⟨a1,c1,rfl,hc1,hr1,nu,hK1⟩;have yV:=acr hK1;have HR1:=acr nu;have HD:=acr (NJ a1 b1.length c1 b1 w1 (by omega) hr1);clear hc1 hr1 nu hK1 HB0;obtain⟨⟨id,kind,links,size,aF,closed⟩,hN⟩:∃N,N=(dx b1).1:=⟨_,rfl⟩;obtain⟨z,hz⟩:∃z,z=(dx b1).2:=⟨_,rfl⟩;rw[←hN,←hz]at HD;unfold ndC at HD;dsimp only at HD;have HN:=acr (And.intro hN hz);clear hN hz;go_wp2_with fail;refine HD.o.mono ?_;rintro e w2 ⟨rfl,hb2⟩;have N9:=acr (kJ yV.o hb2);have HR2:=acr (HR1.o.below hb2 acu);have hx2:x<w2.heap.size:=HR2.o.lt;clear hb2 HD yV HR1;go_wp2_with fail;obtain⟨w3,hw3⟩:∃w3,w3=w2.alloc (.cells #[.int .i64 id,.int .i64 kind,.int .i64 links,.int .i64 size,.int .u64 aF,.bool closed] 39):=⟨_,rfl⟩;rw[←hw3];have hnv:w3.heap[w2.heap.size]? =some (.cells #[.int .i64 id,.int .i64 kind,.int .i64 links,.int .i64 size,.int .u64 aF,.bool closed] 39 (0,0)):=by rw[hw3];exact(MapKept.heap_alloc w2 _).1
 have hb3:Below w2.heap.size w2 w3:=by rw[hw3];exact wall w2 _
 have Vx:=acr (kJ N9.o hb3);have HR3:=acr (HR2.o.below hb3 acu);have hvw:=(iL.1 hnv).1;have HNV:acs (∀w',Keeps (fun b=>b=x) w3 w'→w'.heap[w2.heap.size]? =some (.cells #[.int .i64 id,.int .i64 kind,.int .i64 links,.int .i64 size,.int .u64 aF,.bool closed] 39 (0,0))):=fun w' hK=>(hK.block _ hvw (fun(e:w2.heap.size=x)=>by omega)).trans hnv;have iW:acs (∀w',Keeps (fun b=>b=x) w3 w'→w'.cell? ⟨w2.heap.size,0,none⟩=some (.int .i64 id)∧w'.cell? ⟨w2.heap.size,1,none⟩=some (.int .i64 kind)∧w'.cell? ⟨w2.heap.size,2,none⟩=some (.int .i64 links)∧w'.cell? ⟨w2.heap.size,3,none⟩=some (.int .i64 size)∧w'.cell? ⟨w2.heap.size,4,none⟩=some (.int .u64 aF)∧w'.cell? ⟨w2.heap.size,5,none⟩=some (.bool closed)):=fun w' hK=>
  ⟨dD (HNV.o w' hK) 0,dD (HNV.o w' hK) 1,dD (HNV.o w' hK) 2,dD (HNV.o w' hK) 3,dD (HNV.o w' hK) 4,dD (HNV.o w' hK) 5⟩
 have hs2:=N9.o.size;clear hw3 hb3 hnv N9 HR2;have HB3:=acr (zL HR3.o.drew);have hl4:=AQ s1;obtain⟨b4,Y7⟩:∃b,b=(aL s1).1:=⟨_,rfl⟩;obtain⟨s4,hs4e⟩:∃t,t=(aL s1).2:=⟨_,rfl⟩;rw[←Y7,←hs4e]at HB3;rw[←Y7]at hl4;have Ll:=acr (And.intro Y7 hs4e);clear Y7 hs4e HR3;obtain⟨L,hL⟩:∃L,L=b4.length:=⟨_,rfl⟩;have HL:=acr hL;rw[←hL]at hl4;clear hL;refine BP ((fun w'=>w'.cell? ⟨w2.heap.size,0,none⟩=some (.int .i64 id)∧w'.cell? ⟨w2.heap.size,1,none⟩=some (.int .i64 kind)∧w'.cell? ⟨w2.heap.size,2,none⟩=some (.int .i64 links)∧w'.cell? ⟨w2.heap.size,3,none⟩=some (.int .i64 size)∧w'.cell? ⟨w2.heap.size,4,none⟩=some (.int .u64 aF)∧w'.cell? ⟨w2.heap.size,5,none⟩=some (.bool closed))) ?_ fun hS=> ?_
 ·exact iW.o _ (NK (Keeps.refl _ _))
 refine aX 0 hS ?_;refine aX 1 hS ?_;refine Bl 2 fun K hK=> ?_;go_simp;refine HB3.o.mono ?_;rintro e w4 ⟨a4,c4,rfl,hc4,hr4,Cq,hK4⟩;have Wn:acs (Keeps (fun b=>b=x) w3 w4):=⟨hK4.os,hK4.tape,hK4.output,hK4.size,hK4.block⟩;rw[←HL.o]at hc4 hr4;rw[←HL.o];have Y4:=acr hc4;have HR4:=acr hr4;have Si:=acr Cq;have hs4:w3.heap.size≤w4.heap.size:=hK4.size;clear hc4 hr4 Cq hK4 HB3;go_wp2_with fail;refine Ag hK (iW.o _ Wn.o) fun hS=> ?_;clear hK K;refine aX 3 hS ?_;refine Bl 4 fun K hK=> ?_;go_simp;refine Ag hK (iW.o _ (kJ Wn.o (wall w4 _))) fun hS=> ?_;clear hK K;refine aX 5 hS ?_;refine Bn ?_;obtain⟨w5,RF⟩:∃w5,w5=w4.alloc (.cells #[.int .i64 id,.int .i64 kind,.int .i64 links,.int .i64 size,.int .u64 aF,.bool closed,.slice a4 L c4,.map none] 138):=⟨_,rfl⟩;rw[←RF];have hit:w5.heap[w4.heap.size]? =some (.cells #[.int .i64 id,.int .i64 kind,.int .i64 links,.int .i64 size,.int .u64 aF,.bool closed,.slice a4 L c4,.map none] 138 (0,0)):=by rw[RF];exact(MapKept.heap_alloc w4 _).1
 have hb5:Below w4.heap.size w4 w5:=by rw[RF];exact wall w4 _
 have iB:=acr hb5;have HIT:=acr hit;have hq5:=iW.o _ (kJ Wn.o hb5);obtain⟨-,hq1,-,hq3,-,-⟩:=hq5;have hi6:w5.cell? ⟨w4.heap.size,6,none⟩=some (.slice a4 L c4):=dD hit 6;have Dl:=acr (Vx.o.trans (kJ Wn.o hb5) fun b _ hb=>hb);have hiw:=(iL.1 hit).1;clear RF hit hb5;go_wp2_with fail;by_cases hz:z=0
 ·have HZ:=acr hz;have g1:(z==0)=true:=by simpa using hz
  have g2:(z !=0)=false:=by simpa using hz
  clear hz;by_cases hln:(L:Int)=size
  ·have OL:=acr hln;have g3:((L:Int)==size)=true:=by simpa using hln
   have g4:((L:Int) !=size)=false:=by simpa using hln
   clear hln
   go_quiet (fail)
   have Gl:Keeps (fun b=>b=x) w (w5.drewN nq):=vY nq Dl.o;have hRD6:bO D (w5.drewN nq) x s4:=(Si.o.below iB.o acu).drewN nq;have hIT6:(w5.drewN nq).heap[w4.heap.size]? =some (.cells #[.int .i64 id,.int .i64 kind,.int .i64 links,.int .i64 size,.int .u64 aF,.bool closed,.slice a4 L c4,.map none] 138 (0,0)):=HIT.o;have hrow6:ah (fun b=>w3.drew.heap.size≤b∧b<w4.heap.size) (w5.drewN nq) a4 L (b4.map bv):=(HR4.o.below iB.o acu).kept acu fun _ _ _=>rfl;have hk6:(w5.drewN nq).cell? ⟨w2.heap.size,1,none⟩=some (.int .i64 kind):=hq1;have hvw6:w2.heap.size<(w5.drewN nq).heap.size:=Nat.lt_of_lt_of_le hvw (aax hs4 iB.o.size);clear hq1 hq3 hi6 HIT Dl;generalize w5.drewN nq=w6 at*;have HS:=acr (qK hRD6);have hrg:=eD s4 2;obtain⟨cnt,hcnt⟩:∃cnt:Nat,(bq s4 2).1=(cnt:Int):=⟨(bq s4 2).1.toNat,by omega⟩;have hcb:cnt<65536:=by
    have:(256:Int)^2=65536:=rfl;omega
   obtain⟨s5,hs5⟩:∃t,t=(bq s4 2).2:=⟨_,rfl⟩;rw[hcnt,←hs5]at HS;have NM:=acr (And.intro hcnt hs5);have HROW6:=acr hrow6;have HIT6:=acr hIT6;have EL:=acr Gl;have hx6:=hRD6.lt;have hiw6:=(iL.1 hIT6).1;have hix:w4.heap.size≠x:=by have:=Si.o.lt;omega
   clear hrg hcnt hs5 hrow6 hIT6 Gl hRD6;go_wp2_with fail;refine HS.o.mono ?_;rintro e w7 ⟨rfl,hR7,hK7⟩;have hvx:w2.heap.size≠x:=by omega
   have hk7:w7.cell? ⟨w2.heap.size,1,none⟩=some (.int .i64 kind):=(aau (w:=w6) (w':=w7) (a:=⟨w2.heap.size,1,none⟩) (hK7.block _ hvw6 hvx)).trans hk6;have hit7:=(hK7.block _ hiw6 hix).trans HIT6.o;have hs7:=hK7.size;have HK7:=acr (EL.o.trans hK7 fun b _ hb=>hb);have Px:acs (ah (fun b=>w3.drew.heap.size≤b∧b<w4.heap.size) w7 a4 L (b4.map bv)):=HROW6.o.kept hs7 fun b hb hbw=>hK7.block b hbw fun(e:b=x)=>by have:=Si.o.lt;have:=Wn.o.size;have h9:w3.heap.size≤b:=hb.1;have:=Vx.o.size;omega
   have ER:=acr hR7;have Y8:=acr hit7;have pI:acs ((dx (aL s).1).1=⟨id,kind,links,size,aF,closed⟩∧(dx (aL s).1).2=0∧(aL (aL s).2).1=b4∧(aL (aL s).2).2=s4):=by
    refine⟨?_,?_,?_,?_⟩
    ·rw[←BX.o.1,←HN.o.1]
    ·rw[←BX.o.1,←HN.o.2,HZ.o]
    ·rw[←BX.o.2,←Ll.o.1]
    ·rw[←BX.o.2,←Ll.o.2]
   have Y9:=Vx.o.size;have hs34:=hs4;have hs45:=iB.o.size;have hitC:∀(l:List (Nm×Int)) (nb:Nat) (v:Value),v=fu (zJ ⟨id,kind,links,size,aF,closed⟩ b4 l) nb→ji id (zJ ⟨id,kind,links,size,aF,closed⟩ b4 l) a4 c4 nb= #[.int .i64 id,.int .i64 kind,.int .i64 links,.int .i64 size,.int .u64 aF,.bool closed,.slice a4 L c4,v]:=fun l nb v hv=>by
    rw[hv];unfold ji zJ;dsimp only;rw[←HL.o,OL.o]
   have HITC:=acr hitC;have HLX:=Si.o.lt;clear hR7 hK7 hit7 hitC HS hk6;by_cases hk1:kind=1
   ·have g5:(kind==1)=true:=by simpa using hk1
    by_cases hc0:cnt=0
    ·have HF:acs (jq s=some ((id,zJ ⟨id,kind,links,size,aF,closed⟩ b4 []),s5)):=by
      show _=_;unfold jq;dsimp only;rw[pI.o.1,pI.o.2.1,pI.o.2.2.1,pI.o.2.2.2,if_neg (by
       dsimp only;rw[←HL.o,OL.o];simp),if_pos hk1,if_pos (by rw[NM.o.1,hc0];rfl),NM.o.2]
     subst hc0;have NP:=acr hk1;clear hk1;go_wp2_with fail
     go_ret2
     refine⟨HK7.o,?_⟩;rw[HF.o];refine⟨w4.heap.size,0,fun b=>w3.drew.heap.size≤b∧b<w4.heap.size,rfl,ER.o,⟨⟨a4,c4,?_,?_,?_⟩,fun hk=> ?_⟩,by omega,by omega,fun hk=> ?_,fun b hb=> ?_⟩
     ·rw[HITC.o [] 0 (.map none) (if_neg (by show ¬kind=2;rw[NP.o];decide)).symm];exact Y8.o
     ·show ny b4.length c4;rw[←HL.o];exact Y4.o
     ·show ah _ w7 a4 b4.length _;rw[←HL.o];exact Px.o
     ·have h9:kind=2:=hk;rw[NP.o]at h9;cases h9
     ·have h9:kind=2:=hk;rw[NP.o]at h9;cases h9
     ·have h9:w3.heap.size≤b:=hb.1;have h8:=hb.2;exact⟨by omega,by omega,by omega,fun hk=>by
       have h9:kind=2:=hk;rw[NP.o]at h9;cases h9⟩
    ·have HF:acs (jq s=none):=by
      show _=_;unfold jq;dsimp only;rw[pI.o.1,pI.o.2.1,pI.o.2.2.1,pI.o.2.2.2,if_neg (by
       dsimp only;rw[←HL.o,OL.o];simp),if_pos hk1,if_neg (by rw[NM.o.1];omega)]
     have g6:((cnt:Int)==0)=false:=by simpa using hc0
     clear hk1 hc0;go_wp2_with fail
     go_ret2
     exact nT.none_ HK7.o HF.o
   ·have g5:(kind==1)=false:=by simpa using hk1
    have hk2:kind=2:=by
     have h9:=(Es pI.o.2.1).2.1;rw[pI.o.1]at h9;rcases h9 with h9|h9
     ·exact absurd h9.1 hk1
     ·exact h9.1
    have HK2':=acr hk2;have NP:=acr hk1;have hmm:= @run_makeMap Tryz.prog;have hf7:w7.frozen? ⟨w4.heap.size,7,none⟩=false:=by simp only[World.frozen?,Y8.o];rfl
    have hc7:w7.cell? ⟨w4.heap.size,7,none⟩=some (.map none):=dD Y8.o 7;have hlt7:w4.heap.size<w7.heap.size:=Nat.lt_of_lt_of_le hiw6 hs7;clear hk1 hk2;go_wp2_with fail;obtain⟨w8,hw8⟩:∃w8,w8=(w7.setCell ⟨w4.heap.size,7,none⟩ (.map (some w7.heap.size))).alloc (.map #[] 0):=⟨_,rfl⟩;have Y_:(w7.setCell ⟨w4.heap.size,7,none⟩ (.map (some w7.heap.size))).heap.size=w7.heap.size:=size_set _ _ _;rw[←hw8];have BL:w8.heap.size=w7.heap.size+1:=by rw[hw8,Pe,Y_]
    have hM8:MapAt iq w8 w7.heap.size []:=by
     have:=MapAt.made (F:=iq) (w7.setCell ⟨w4.heap.size,7,none⟩ (.map (some w7.heap.size)));rw[Y_]at this;rw[hw8];exact this
    have hold:∀b,b<w7.heap.size→b≠w4.heap.size→w8.heap[b]? =w7.heap[b]? :=fun b hb hn=>by
     rw[hw8];exact((wall _ _).block b (by rw[Y_];exact hb)).trans (bA _ _ _ _ hn)
    have hI8:w8.heap[w4.heap.size]? =some (.cells #[.int .i64 id,.int .i64 kind,.int .i64 links,.int .i64 size,.int .u64 aF,.bool closed,.slice a4 L c4,.map (some w7.heap.size)] 138 (0,0)):=by
     rw[hw8,(wall (w7.setCell ⟨w4.heap.size,7,none⟩ (.map (some w7.heap.size))) _).block _ (by rw[Y_];exact hlt7),aO Y8.o];rfl
    have hK8:Keeps (fun b=>b=x) w w8:=by
     have hk:Keeps (fun b=>b=w4.heap.size) w7 w8:=by
      rw[hw8];exact kJ (Keeps.gI w7 ⟨w4.heap.size,7,none⟩ _) (wall _ _)
     exact⟨hk.os.trans HK7.o.os,hk.tape.trans HK7.o.tape,hk.output.trans HK7.o.output,by have:=HK7.o.size;omega,fun b hb hn=>(hold b (by omega) (by omega)).trans (HK7.o.block b hb hn)⟩
    have D9:=acr (ER.o.kept (w1:=w8) (by omega) (hold x (by omega) (by omega)) fun b hb hbw=>hold b hbw (fun e=>by have:=Si.o.low b hb;omega));have Me:=acr hM8;have EM:=acr hI8;have HK8:=acr hK8;have HOLD:=acr hold;clear hw8 hM8 hI8 hK8 hold hf7 hc7 hmm hk7
    go_loopw [8,46] (fun lv iv wr=>NmRel D w8 x w7.heap.size cnt s5 lv iv wr) (fun _ iv _=>cnt-(intOf iv).toNat)
    case atStart=>exact⟨0,s5,[],[],rfl,Nat.zero_le _,rfl,rfl,fun e he=>(by cases he),rfl,D9.o,Me.o,Keeps.refl _ _⟩
    case round=>
     obtain⟨k,sr,last,acc,rfl,hk,rfl,hrn,hal,hac,hRr,hMr,hKr⟩:=hrel;have HRN:=acr hrn;have HAL:=acr hal;have HAC:=acr hac;have HRR:=acr hRr;have HMR:=acr hMr;have Gt:=acr hKr;clear hrn hal hac hRr hMr hKr;by_cases hlt:k<cnt
     ·have hmr:=HMR.o.lt;have IL:=Me.o.lt;have hsr:=Gt.o.size;have hxr:=HRR.o.lt;have hI:wr.heap[w4.heap.size]? =some (.cells #[.int .i64 id,.int .i64 kind,.int .i64 links,.int .i64 size,.int .u64 aF,.bool closed,.slice a4 L c4,.map (some w7.heap.size)] 138 (0,0)):=(Gt.o.block _ (by omega) (by omega)).trans EM.o;have HI:=acr hI;have Ni:=acr (zL HRR.o);have hnl:=AQ sr;obtain⟨nm,hnm⟩:∃b,b=(aL sr).1:=⟨_,rfl⟩;obtain⟨t1,ht1⟩:∃t,t=(aL sr).2:=⟨_,rfl⟩;rw[←hnm,←ht1]at Ni;rw[←hnm]at hnl;have zN:=acr (And.intro hnm ht1);have DW:acs (∀w',Keeps (fun b=>b=x∨b=w7.heap.size) w8 w'→Keeps (fun b=>b=x) w w'):=fun w' hK=>HK8.o.trans hK fun z hz hzx=>hzx.resolve_right fun e=>by omega
      clear hnm ht1 hI;go_wp2_with fail;refine Ni.o.mono ?_;rintro e wa ⟨aa,ca,rfl,hca,hra,hRa,hKa⟩;have hcv:(convert 28 9 (.slice aa nm.length ca)).run Tryz.prog wa= .ok (.string (strOf nm)) wa:=mM (c:=ca) hra;have Yk:=acr hRa;have HKA:=acr hKa;have hsa:=hKa.size;have HMA:=acr (HMR.o.kept (hKa.block _ hmr (by omega)));have HIA:=acr ((hKa.block _ (by omega) hix).trans HI.o);clear hca hra hRa hKa Ni;go_wp2_with fail;clear hcv;have SH:=acr (qK Yk.o.drew);obtain⟨v,hv⟩:∃v,v=(bq t1 2).1:=⟨_,rfl⟩;obtain⟨t2,ht2⟩:∃t,t=(bq t1 2).2:=⟨_,rfl⟩;rw[←hv,←ht2]at SH;have HV:=acr (And.intro hv ht2);clear hv ht2;refine wQ 7 ((fun w'=>w'.cell? ⟨w4.heap.size,7,none⟩=some (.map (some w7.heap.size)))) ?_ fun hS=> ?_
      ·exact dD HIA.o 7
      refine aC 0 hS ?_;refine aC 1 hS ?_;refine aC 2 hS ?_;refine aC 3 hS ?_;refine aC 4 hS ?_;refine aC 5 hS ?_;refine bU 6 fun K hK=> ?_;go_simp;refine SH.o.mono ?_;rintro e wb ⟨rfl,hRb,hKb⟩;have hIb:wb.heap[w4.heap.size]? =some (.cells #[.int .i64 id,.int .i64 kind,.int .i64 links,.int .i64 size,.int .u64 aF,.bool closed,.slice a4 L c4,.map (some w7.heap.size)] 138 (0,0)):=(hKb.block _ (by show w4.heap.size<wa.heap.size;omega) hix).trans HIA.o;have hMb:MapAt iq wb w7.heap.size (acc.map fun e=>(e.1,.int .i64 e.2)):=HMA.o.kept (hKb.block _ (by show w7.heap.size<wa.heap.size;omega) (by omega));have hsb:wa.heap.size≤wb.heap.size:=hKb.size;have Ki:=acr hRb;have HKB:acs (Keeps (fun b=>b=x) wa wb):=⟨hKb.os,hKb.tape,hKb.output,hKb.size,hKb.block⟩;clear hRb hKb SH;go_wp2_with fail;refine bV hK (dD hIb 7) fun hS=> ?_;clear hK K;refine bU 7 fun K hK=> ?_;go_simp;obtain⟨wc,hrun,hMc,YF⟩:=hMb.rT iq Tryz.underlying136 (by rw[List.length_map,HAC.o];unfold maxLen;omega) nm (.int .i64 v) (by show nm.length≤maxLen;unfold maxLen;omega);have hval:iq.val nm= .string (strOf nm):=rfl;rw[hval]at hrun;rw[hrun];go_simp;refine nk hK ?_;clear hS hK K;have hsc:=jL YF;have SE:=acr hMc;have HRC:=acr (Ki.o.kept (w1:=wc) (by omega) (dL YF x (by have:=Ki.o.lt;omega) (by omega)) fun b hb hbw=>dL YF b hbw (fun e=>by have:=Si.o.low b hb;omega));have HKC:acs (Keeps (fun b=>b=x∨b=w7.heap.size) w8 wc):=((Gt.o.trans HKA.o fun z _ hz=> .inl hz).trans HKB.o fun z _ hz=> .inl hz).trans (Keeps.turned YF) fun z _ hz=> .inr hz;clear hrun hMc YF hMb hIb hval;have Py:=acr (fun w'=>I6 (strOf nm) w' (by rw[fK];unfold maxLen;omega));have hgl:(strOf nm).data.toList=nm:=by simp[strOf]
      rw[hgl]at Py;have wD:=acr (Pt HRC.o);have Md:=acr (IC HRC.o);have uN:acs ((t2.2≠0∨bT nm=false∨bytesBefore last nm=false)→jq s=none):=fun hh=>by
       refine Sc (cnt:=cnt) pI.o.2.1 (by rw[pI.o.2.2.1,pI.o.1];dsimp only;rw[←HL.o,OL.o]) (by rw[pI.o.1];exact NP.o) (by rw[pI.o.2.2.2];exact NM.o.1) ?_;rw[pI.o.2.2.2,←NM.o.2,←HRN.o,show cnt-k=(cnt-(k+1))+1 by omega];refine KZ ?_;rw[←zN.o.1,←zN.o.2,←HV.o.2];exact hh
      clear hgl;by_cases he:t2.2=0
      ·have hgo:∀w',Below wc.heap.size wc w'→Keeps (fun b=>b=x∨b=w7.heap.size) w8 w':=fun w' hb=>kJ HKC.o hb;have F4:=acr hgo;have HE0:=acr he;clear hgo;rcases abv t2.1.length with hl0|hl0
       ·have hlf:fq t2=0:=by unfold fq;rw[if_neg (by simp[he])];exact hl0
        have hen:pG t2=0:=by unfold pG;rw[if_neg (fun hh=>by omega)];exact he
        rw[hlf]at wD;rw[hen]at Md;clear hlf hen hl0 he;go_wp2_with fail;refine wD.o.mono ?_;rintro e _ ⟨rfl,rfl⟩;go_wp2_with fail;refine Md.o.mono ?_;rintro e _ ⟨rfl,rfl⟩;go_wp2_with fail;cases hg:bT nm with
        |false=>
         rw[hg]at Py;have HF:=acr (uN.o (.inr (.inl hg)));clear hg uN;refine(Py.o _).mono ?_;rintro e wd ⟨rfl,hbd⟩;have Wo:=acr (DW.o _ (F4.o _ hbd));clear hbd;go_wp2_with fail
         go_ret2
         exact nT.none_ Wo.o HF.o
        |true=>
         rw[hg]at Py;have HG:=acr hg;clear hg;refine(Py.o _).mono ?_;rintro e wd ⟨rfl,hbd⟩;have Lj:=acr hbd;clear hbd;cases hb:bytesBefore last nm with
         |false=>
          have HF:=acr (uN.o (.inr (.inr hb)));have Wo:=acr (DW.o _ (F4.o _ Lj.o));clear uN;by_cases heq:nm=last
          ·subst heq;have e1:Op.bytesLess (strOf nm).toList (strOf nm).toList=false:=by rw[eu,uy];exact aaZ _
           have e2:((strOf nm).toList==(strOf nm).toList)=true:=by simp
           clear hb;go_wp2_with fail
           go_ret2
           exact nT.none_ Wo.o HF.o
          ·have e1:Op.bytesLess (strOf nm).toList (strOf last).toList=true:=by
            rw[eu,eu,uy];rcases Go.WideAt.bytes_total nm last heq with h9|h9
            ·exact h9
            ·rw[hb]at h9;cases h9
           clear hb heq;go_wp2_with fail
           go_ret2
           exact nT.none_ Wo.o HF.o
         |true=>
          have e1:Op.bytesLess (strOf nm).toList (strOf last).toList=false:=by
           rw[eu,eu,uy];cases h9:bytesBefore nm last with
           |false=>rfl
           |true=>
            have h8:=qd _ _ _ hb h9;rw[aaZ]at h8;cases h8
          have e2:((strOf nm).toList==(strOf last).toList)=false:=by
           rw[eu,eu];have hne:nm≠last:=fun h9=>by rw[h9,aaZ]at hb;cases hb
           simpa using hne
          have EO:=acr hb;clear hb uN;go_wp2_with fail;go_roundw
          case rel=>
           refine⟨k+1,t2,nm,acc++[(nm,v)],by go_num,by omega,rfl,?_,fun e he=> ?_,by rw[List.length_append,HAC.o];rfl,HRC.o.below Lj.o acu,?_,F4.o _ Lj.o⟩
           ·rw[←HRN.o,show cnt-k=(cnt-(k+1))+1 by omega];rw[BH (by rw[←zN.o.2,←HV.o.2];exact HE0.o) (by rw[←zN.o.1];exact HG.o) (by rw[←zN.o.1];exact EO.o),←zN.o.1,←zN.o.2,←HV.o.1,←HV.o.2]
           ·rcases aap.1 he with h9|h9
            ·exact .inr (EB HAL.o EO.o e h9)
            ·simp only[List.mem_singleton]at h9;subst h9;exact .inl rfl
           ·rw[←Pw HAL.o EO.o v];exact SE.o.kept (Lj.o.block _ SE.o.lt)
          case measure=>simp[intOf];omega
       ·have hlf:fq t2=t2.1.length:=by unfold fq;rw[if_neg (by simp[he])]
        rw[hlf]at wD;have glf:((t2.1.length:Int)==0)=false:=aa1.2 (by omega);clear hlf hl0 he;go_wp2_with fail;refine wD.o.mono ?_;rintro e _ ⟨rfl,rfl⟩;go_wp2_with fail;clear glf;cases hg:bT nm with
        |false=>
         rw[hg]at Py;have HF:=acr (uN.o (.inr (.inl hg)));clear hg uN;refine(Py.o _).mono ?_;rintro e wd ⟨rfl,hbd⟩;have Wo:=acr (DW.o _ (F4.o _ hbd));clear hbd;go_wp2_with fail
         go_ret2
         exact nT.none_ Wo.o HF.o
        |true=>
         rw[hg]at Py;have HG:=acr hg;clear hg;refine(Py.o _).mono ?_;rintro e wd ⟨rfl,hbd⟩;have Lj:=acr hbd;clear hbd;cases hb:bytesBefore last nm with
         |false=>
          have HF:=acr (uN.o (.inr (.inr hb)));have Wo:=acr (DW.o _ (F4.o _ Lj.o));clear uN;by_cases heq:nm=last
          ·subst heq;have e1:Op.bytesLess (strOf nm).toList (strOf nm).toList=false:=by rw[eu,uy];exact aaZ _
           have e2:((strOf nm).toList==(strOf nm).toList)=true:=by simp
           clear hb;go_wp2_with fail
           go_ret2
           exact nT.none_ Wo.o HF.o
          ·have e1:Op.bytesLess (strOf nm).toList (strOf last).toList=true:=by
            rw[eu,eu,uy];rcases Go.WideAt.bytes_total nm last heq with h9|h9
            ·exact h9
            ·rw[hb]at h9;cases h9
           clear hb heq;go_wp2_with fail
           go_ret2
           exact nT.none_ Wo.o HF.o
         |true=>
          have e1:Op.bytesLess (strOf nm).toList (strOf last).toList=false:=by
           rw[eu,eu,uy];cases h9:bytesBefore nm last with
           |false=>rfl
           |true=>
            have h8:=qd _ _ _ hb h9;rw[aaZ]at h8;cases h8
          have e2:((strOf nm).toList==(strOf last).toList)=false:=by
           rw[eu,eu];have hne:nm≠last:=fun h9=>by rw[h9,aaZ]at hb;cases hb
           simpa using hne
          have EO:=acr hb;clear hb uN;go_wp2_with fail;go_roundw
          case rel=>
           refine⟨k+1,t2,nm,acc++[(nm,v)],by go_num,by omega,rfl,?_,fun e he=> ?_,by rw[List.length_append,HAC.o];rfl,HRC.o.below Lj.o acu,?_,F4.o _ Lj.o⟩
           ·rw[←HRN.o,show cnt-k=(cnt-(k+1))+1 by omega];rw[BH (by rw[←zN.o.2,←HV.o.2];exact HE0.o) (by rw[←zN.o.1];exact HG.o) (by rw[←zN.o.1];exact EO.o),←zN.o.1,←zN.o.2,←HV.o.1,←HV.o.2]
           ·rcases aap.1 he with h9|h9
            ·exact .inr (EB HAL.o EO.o e h9)
            ·simp only[List.mem_singleton]at h9;subst h9;exact .inl rfl
           ·rw[←Pw HAL.o EO.o v];exact SE.o.kept (Lj.o.block _ SE.o.lt)
          case measure=>simp[intOf];omega
      ·have hlf:fq t2=0:=by unfold fq;rw[if_pos he]
       have hen:pG t2=t2.2:=by unfold pG;rw[if_neg (fun hh=>he hh.1)]
       have HF:=acr (uN.o (.inl he));have g7:(t2.2 !=0)=true:=by simpa using he
       have g8:(t2.2==0)=false:=by simpa using he
       rw[hlf]at wD;rw[hen]at Md;have Wo:=acr (DW.o _ HKC.o);clear hlf hen he uN;go_wp2_with fail;refine wD.o.mono ?_;rintro e _ ⟨rfl,rfl⟩;go_wp2_with fail;refine Md.o.mono ?_;rintro e _ ⟨rfl,rfl⟩;go_wp2_with fail
       go_ret2
       exact nT.none_ Wo.o HF.o
     ·obtain rfl:k=cnt:=by omega
      have HF:acs (jq s=some ((id,zJ ⟨id,kind,links,size,aF,closed⟩ b4 acc),sr)):=by
       show _=_;rw[Sd (cnt:=k) (q:=(acc,sr)) pI.o.2.1 (by rw[pI.o.2.2.1,pI.o.1];dsimp only;rw[←HL.o,OL.o]) (by rw[pI.o.1];exact NP.o) (by rw[pI.o.2.2.2];exact NM.o.1) (by rw[pI.o.2.2.2,←NM.o.2,←HRN.o,Nat.sub_self];rfl),pI.o.1,pI.o.2.2.1]
      go_wp2_with fail
      go_ret2
      have IL:=Me.o.lt;have hsr:=Gt.o.size;refine⟨HK8.o.trans Gt.o fun z hz hzx=>hzx.resolve_right fun e=>by omega,?_⟩;rw[HF.o];refine⟨w4.heap.size,w7.heap.size,fun b=>w3.drew.heap.size≤b∧b<w4.heap.size,rfl,HRR.o,⟨⟨a4,c4,?_,?_,?_⟩,fun hk=> ?_⟩,by omega,by omega,fun hk=>⟨by omega,by omega,by omega⟩,fun b hb=> ?_⟩
      ·rw[HITC.o acc w7.heap.size (.map (some w7.heap.size)) (if_pos (show kind=2 from HK2'.o)).symm];exact(Gt.o.block _ (by omega) (by omega)).trans EM.o
      ·show ny b4.length c4;rw[←HL.o];exact Y4.o
      ·show ah _ wr a4 b4.length _;rw[←HL.o];exact Px.o.kept (by omega) fun b hb hbw=>by
        have h9:w3.heap.size≤b:=hb.1;have h8:=hb.2;exact(Gt.o.block b (by omega) (by omega)).trans (HOLD.o b hbw (by omega))
      ·exact HMR.o
      ·have h9:w3.heap.size≤b:=hb.1;have h8:=hb.2;exact⟨by omega,by omega,by omega,fun _=>by omega⟩
  ·have g3:((L:Int)==size)=false:=by simpa using hln
   have g4:((L:Int) !=size)=true:=by simpa using hln
   have HF:acs (jq s=none):=by
    show _=_;unfold jq;dsimp only;rw[if_pos];right;rw[←BX.o.1,←HN.o.1,←BX.o.2,←Ll.o.1,←HL.o];exact hln
   clear hln
   go_quiet (fail)
   go_wp2_with fail
   go_ret2
   exact nT.none_ (vY _ Dl.o) HF.o
 ·have g1:(z==0)=false:=by simpa using hz
  have g2:(z !=0)=true:=by simpa using hz
  have HF:acs (jq s=none):=by
   show _=_;unfold jq;dsimp only;rw[if_pos];left;rw[←BX.o.1,←HN.o.2];exact hz
  clear hz
  go_quiet (fail)
  go_wp2_with fail
  go_ret2
  exact nT.none_ (vY _ Dl.o) HF.o
end
end Go.Proofs.YtjnhnlabpccgjaaGreatDoor
