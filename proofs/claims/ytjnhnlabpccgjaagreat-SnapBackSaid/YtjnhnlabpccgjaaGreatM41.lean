/- package snap: read, of bytes that Save wrote. Snapshots read from any bytes, plainly. package snap: read, of any bytes. package snap: Load, of bytes that Save wrote. package snap: Load, of any bytes. A byte turned; rows opened. -/
import Derived.Test.YtjnhnlabpccgjaaGreatM40
import Derived.Test.YtjnhnlabpccgjaaGreatM34
import Derived.Test.YtjnhnlabpccgjaaGreatM37
import Derived.Deep.CutBlock
import Derived.Deep.DeepCutAuto
import Derived.Test.YtjnhnlabpccgjaaGreatM24
import Derived.Test.YtjnhnlabpccgjaaGreatM10
namespace Go.Proofs.YtjnhnlabpccgjaaGreat
open Go.ChangeShapes Go.WideShapes Go.ChangeAt Go.RowKit
set_option linter.unusedVariables false
set_option linter.unusedSimpArgs false
section
variable {W w:World} {o:Mark} {i j s p:Nat} {S:jc} {T:aA}
open Classical in
theorem Qr {K:aA→Prop} {w9:World} {v v8:Value} {vals vsx:List Value} {x:dX} {la:Option Addr} {lc:Nat} (hM:Marks W o w) (hi:i≠0) (hos:o s=i) (hsw:s<w.heap.size) (YH:∀b,v.ownBlock=some b→o b=i∧b≠s∧b<w.heap.size)
  (hO:fI K o w vals S.l) (hx:vP K o w vsx x) (hlc:S.last.length≤lc) (hla:ah (fun b=>o b=0∧b<w.heap.size) w la S.last.length (S.last.map bv)) (hh:w9.heap[s]? =some (.cells #[v8, .int .i64 S.next, .slice la S.last.length lc] 80 (0,0))) (hown:w9.ownsRow 0 84 3 v8 (S.l.length+1) (vals++vsx))
  (hat:v8.ownBlock=v.ownBlock∨∃b,v8.ownBlock=some b∧w.heap.size≤b) (hK:Keeps (fun b=>b=s∨v.ownBlock=some b) w w9):
  ∃o',Step o (fun k=>k=i) w o' w9∧iT K o' i w9 s ⟨S.l++[x],S.next,S.last⟩:=by
 obtain⟨o',ho⟩:∃o':Mark,∀b,o' b=if v8.ownBlock=some b∧w.heap.size≤b then i else o b:=⟨_,fun _=>rfl⟩
 have Oz:∀b,v8.ownBlock=some b→b<w9.heap.size:=kJ hown
 have hst:Step o (fun k=>k=i) w o' w9:=by
  refine⟨fun b hb=>by rw[ho,if_neg (fun h=>by omega)],fun b hb hn=> ?_,hK.mono fun b hb h=> ?_⟩
  ·by_cases h:v8.ownBlock=some b∧w.heap.size≤b
   ·rw[ho,if_pos h];exact⟨rfl,Oz b h.1⟩
   ·rw[ho,if_neg h]at hn;have:=(hM.new b hn).2;omega
  ·rcases h with h|h
   ·rw[h];exact hos
   ·exact(YH b h).1
 have hi0:¬(fun k=>k=i) 0:=fun e=>hi e.symm
 refine⟨o',hst,⟨v8,la,lc,vals++vsx,hh,(hst.old s hsw).trans hos,Nat.lt_of_lt_of_le hsw hK.size,?_,fun b hb=> ?_,?_,hlc,?_⟩⟩
 ·rw[List.length_append];exact hown
 ·rcases hat with h1|⟨b',h1,h2⟩
  ·rw[h1]at hb
   obtain⟨k1,k2,k3⟩:=YH b hb
   exact⟨(hst.old b k3).trans k1,k2,Nat.lt_of_lt_of_le k3 hK.size⟩
  ·rw[h1]at hb
   cases hb
   exact⟨by rw[ho,if_pos ⟨h1,h2⟩],by omega,Oz _ h1⟩
 ·exact fI.append (hO.step hi0 hst) ⟨_,[],by simp,hx.step hi0 hst,rfl⟩
 ·exact hla.move hst.keep.size fun b hb hbw=>⟨⟨(hst.old b hb.2).trans hb.1,Nat.lt_of_lt_of_le hb.2 hst.keep.size⟩,hst.block hb.2 (by rw[hb.1];exact hi0)⟩
end
def IW (T:aA):Prop:=∀k x,aj k T=some x→x.names.length≤65535
def KW (T:aA):Prop:=OkW T∧IW T
theorem IW.cu {T:aA} (h:IW T) (id:Int):IW (cu T id).2:=fun k x hx=>by
 unfold Go.Proofs.YtjnhnlabpccgjaaGreat.cu at hx
 simp only at hx
 split at hx
 ·rw[oQ,eu]at hx
  split at hx
  ·cases hx
  ·rw[gZ]at hx
   cases hy:aj k T with
   |none=>rw[hy]at hx;cases hx
   |some y=>
    rw[hy]at hx
    simp only[Option.map_some,Option.some.injEq]at hx
    subst hx
    exact Nat.le_trans (List.length_filter_le _ _) (h k y hy)
 ·exact h k x hx
theorem IW.aQ {T:aA} (h:IW T):∀k,IW (aQ T k)
 |0=>by rw[iR];exact h
 |k+1=>by
  cases hg:(iW T)[k]? with
  |some id=>rw[g_ hg];exact(h.aQ k).cu id
  |none=>
   have:Go.Proofs.YtjnhnlabpccgjaaGreat.aQ T (k+1)=Go.Proofs.YtjnhnlabpccgjaaGreat.aQ T k:=by
    have hl:=List.getElem?_eq_none_iff.1 hg
    unfold Go.Proofs.YtjnhnlabpccgjaaGreat.aQ
    rw[List.take_of_length_le hl,List.take_of_length_le (by omega)]
   rw[this];exact h.aQ k
theorem KW.bf {T:aA} (h:KW T):KW (bf T):=⟨h.1.bf,by rw[←ji];exact h.2.aQ _⟩
theorem Tz {T:aA} (h:qI T) (hR:jT T):KW T:=⟨(Iz h hR).1,fun k x hx=>(h.get hx).few⟩
structure iP (nx bh:Int) (x:dX):Prop where
 ok:ig x.t
 com:bf x.t=x.t
 id:1≤x.id∧x.id<nx
 up:bh<x.id
 hash:x.hash.length=32
theorem Mv {sr s1 s2 s3:Rd} {id n:Int} {hash:List UInt8} {nx bh:Int} (n1:aT sr 8=(id,s1)) (n2:aF s1=(hash,s2)) (n3:aT s2 8=(n,s3)) (hnx:nx≤1099511627776) {x:dX} {rest:List UInt8} (e:sr=(gJ x++rest,0)) (h:iP nx bh x):
  id=x.id∧hash=x.hash∧n=((bZ x.t).length:Int)∧s3=(bZ x.t++rest,0)∧2≤(bZ x.t).length∧(bZ x.t).length≤6000000:=by
 have hsl:=xg h.ok.1
 have hs2:2≤(bZ x.t).length:=by unfold bZ;rw[List.length_append,bO];omega
 have e8:(256:Int)^8=18446744073709551616:=rfl
 have h1:=h.id
 have h2:=h.hash
 subst e
 have m1:aT (gJ x++rest,0) 8=(x.id,(lF x.hash++(dR (bZ x.t).length 8++(bZ x.t++rest)),0)):=by
  unfold gJ
  rw[List.append_assoc,List.append_assoc,List.append_assoc]
  exact gF 8 x.id _ (by omega) (by omega)
 rw[m1]at n1
 cases n1
 rw[nO _ _ (by omega)]at n2
 cases n2
 rw[gF 8 _ _ (by omega) (by omega)]at n3
 cases n3
 exact⟨rfl,rfl,rfl,rfl,hs2,hsl⟩
theorem Qs {sr s1 s2 s3 s4:Rd} {id n:Int} {hash b:List UInt8} (n1:aT sr 8=(id,s1)) (n2:aF s1=(hash,s2)) (n3:aT s2 8=(n,s3)) (h0:iA s3≠0) (hn0:0≤n) (hn:n≤(iA s3:Int)) (n4:iy s3 n=(b,s4)):
  sr=(dR id 8++lF hash++dR (b.length:Int) 8++b++s4.1,0)∧s4=(s4.1,0)∧n=(b.length:Int):=by
 have h3:s3.2=0:=Decidable.byContradiction fun h=>h0 (by unfold iA;rw[if_pos h])
 have hl:iA s3=s3.1.length:=by unfold iA;rw[if_neg (by simp[h3])]
 have h4:(iy s3 n).2.2=0:=by
  unfold iy
  rw[if_neg (by simp[h3]),if_neg (by omega)]
  split
  ·exact h3
  ·rfl
 obtain⟨_,r2,r3⟩:=Dy hn0 h4
 rw[n4]at h4 r2 r3
 have k3:=gI (s:=s2) (k:=8) (by rw[n3];exact h3)
 rw[n3]at k3
 have k2:=kC (s:=s1) (by rw[n2];exact k3.1)
 rw[n2]at k2
 have k1:=gI (s:=sr) (k:=8) (by rw[n1];exact k2.1)
 rw[n1]at k1
 dsimp only at h4 r2 r3 k1 k2 k3
 refine⟨Prod.ext ?_ k1.1,Prod.ext rfl h4,r3.symm⟩
 show sr.1=_
 rw[k1.2.1,k2.2.1,k3.2.1,r2,r3]
 simp only[List.append_assoc]
theorem Mw {sr s1 s2 s3:Rd} {id n:Int} {hash:List UInt8} (n1:aT sr 8=(id,s1)) (n2:aF s1=(hash,s2)) (n3:aT s2 8=(n,s3)):iA s3≤sr.1.length:=by
 by_cases h3:s3.2=0
 ·have hl:iA s3=s3.1.length:=by unfold iA;rw[if_neg (by simp[h3])]
  have k3:=gI (s:=s2) (k:=8) (by rw[n3];exact h3)
  rw[n3]at k3
  have k2:=kC (s:=s1) (by rw[n2];exact k3.1)
  rw[n2]at k2
  have k1:=gI (s:=sr) (k:=8) (by rw[n1];exact k2.1)
  rw[n1]at k1
  dsimp only at k1 k2 k3
  rw[hl,k1.2.1,k2.2.1,k3.2.1]
  simp only[List.length_append]
  omega
 ·unfold iA;rw[if_pos h3];omega
theorem TA {b:List UInt8} {n:Int} {s3 s4:Rd} {x:dX} {rest:List UInt8} (n4:iy s3 n=(b,s4)) (hn:n=((bZ x.t).length:Int)) (h3:s3=(bZ x.t++rest,0)):b=bZ x.t∧s4=(rest,0):=by
 subst h3
 rw[Ah _ _ _ hn]at n4
 cases n4
 exact⟨rfl,rfl⟩
theorem Mx {b:List UInt8} {T:aA} {x:dX} {nx bh:Int} (h:parseM b=some T) (hb:b=bZ x.t) (hg:iP nx bh x):T=x.t:=by
 rw[hb,Am (ig.UE hg.ok.1)]at h
 exact(Option.some.inj h).symm
theorem IX {S S':Nat→Prop} (a a':Option Addr) (n n' c c':Nat) (bs bs':List UInt8) (w:World) (h:ah S w a n (bs.map bv)) (h':ah S' w a' n' (bs'.map bv)):
  Calls Tryz.prog 100 #[.slice a n c, .slice a' n' c'] w fun e w'=>e= .returned (.bool (decide (bs=bs')))∧w=w':=by
 by_cases hb:bs=bs'
 ·subst hb
  rw[decide_eq_true rfl]
  exact IV a a' n n' c c' bs w h h'
 ·rw[decide_eq_false hb]
  have hc1:=fK (c:=c) h
  have hc2:=fK (c:=c') h'
  obtain⟨k1,k2⟩:=D7 hb
  clear h h' hb
  go_enter Tryz.func100,Tryz.ntmps100
  go_wp2_with fail
  go_ret
  exact⟨rfl,rfl⟩
section
variable {W w:World} {o:Mark} {i j s p:Nat} {S:jc}
def ReadW (o:Mark) (i j:Nat) (w:World) (s xr:Nat) (S:jc) (bh:Int) (sr:Rd) (e:Ending) (w':World):Prop:=
 (∃x rest o',e= .returned (.bool true)∧sr=(gJ x++rest,0)∧(bh<x.id∧x.id<S.next∧x.hash.length=32)∧KW x.t∧(∀y r,sr=(gJ y++r,0)→iP S.next bh y→y=x∧r=rest)∧Step o (fun k=>k=i∨k=j) w o' w'∧iT KW o' i w' s ⟨S.l++[x],S.next,S.last⟩∧DL o' j w' xr (rest,0))∨
 (e= .returned (.bool false)∧(∀y r,sr=(gJ y++r,0)→¬iP S.next bh y)∧∃o',Step o (fun k=>k=j) w o' w')
set_option maxRecDepth 100000 in
set_option maxHeartbeats 32000000 in
theorem FP (hS:iT KW o i w s S) (hM:Marks W o w) (hi:i≠0) (hj:j≠0) (hij:i≠j) (sr:Rd) (xr:Nat) (hR:DL o j w xr sr) (hnx:1≤S.next∧S.next≤1099511627776) (KM:S.l.length<8) (behind:Int) (hbh:0≤behind∧behind≤1099511627776) (hsz:sr.1.length≤100000000):
  Calls Tryz.prog 49 #[ptr s,ptr xr, .int .i64 behind] w (ReadW o i j w s xr S behind sr):=by
 obtain⟨⟨id,s1⟩,n1⟩:∃q,aT sr 8=q:=⟨_,rfl⟩
 obtain⟨⟨hash,s2⟩,n2⟩:∃q,aF s1=q:=⟨_,rfl⟩
 obtain⟨⟨n,s3⟩,n3⟩:∃q,aT s2 8=q:=⟨_,rfl⟩
 have e8:(256:Int)^8=18446744073709551616:=rfl
 have r1:=dS sr 8
 have r3:=dS s2 8
 rw[n1,e8]at r1
 rw[n3,e8]at r3
 dsimp only at r1 r3
 have HG:Hid (∀y r,sr=(gJ y++r,0)→iP S.next behind y→id=y.id∧hash=y.hash∧n=((bZ y.t).length:Int)∧s3=(bZ y.t++r,0)∧2≤(bZ y.t).length∧iA s3=(bZ y.t).length+r.length):=fun y r e hg=>by
  obtain⟨g1,g2,g3,g4,g5,g6⟩:=Mv n1 n2 n3 hnx.2 e hg
  exact⟨g1,g2,g3,g4,g5,by rw[g4];unfold iA;rw[if_neg (by simp),List.length_append]⟩
 have HY:Hid (∀b s4,iA s3≠0→n≤(iA s3:Int)→iy s3 n=(b,s4)→sr=(dR id 8++lF hash++dR (b.length:Int) 8++b++s4.1,0)∧s4=(s4.1,0)∧n=(b.length:Int)):=fun b s4 h0 h1 h2=>Qs n1 n2 n3 h0 r3.1 h1 h2
 have hle:iA s3≤sr.1.length:=Mw n1 n2 n3
 have HS:=Lib.hid hS
 have HM:=Lib.hid hM
 have Jr:=Lib.hid (DN hR hM n1)
 have Ur:=Lib.hid n2
 have XP:=Lib.hid n3
 have hj0:¬(fun k=>k=j) 0:=fun e=>hj e.symm
 have hji:¬(fun k=>k=j) i:=fun e=>hij e
 have DK:=Lib.hid hj0
 have HJI:=Lib.hid hji
 have Yt:=Lib.hid KM
 have HSZ:=Lib.hid hsz
 obtain⟨nx,uL⟩:∃nx,nx=S.next:=⟨_,rfl⟩
 rw[←uL]at hnx
 have MB:=Lib.hid uL
 clear hS hM hR n1 n2 n3 hj0 hji uL e8 KM hsz
 go_enter Tryz.func49,Tryz.ntmps49
 go_wp2_with fail
 (with_reducible refine Jr.out.mono ?_)
 rintro e w1 ⟨rfl,mo,hs1⟩
 have vR:=Lib.hid (HM.out.step DK.out hs1)
 have pK:=Lib.hid (HS.out.step DK.out HJI.out hs1)
 have Qt:=Lib.hid hs1
 have DY:=Lib.hid (FN mo vR.out Ur.out)
 clear mo hs1 Jr HS
 go_wp2_with fail
 (with_reducible refine DY.out.mono ?_)
 rintro e w2 ⟨a2,c2,rfl,hc2,hr2,hR2,TB⟩
 have wQ:=Lib.hid (vR.out.step DK.out TB)
 have HS2:=Lib.hid (pK.out.step DK.out HJI.out TB)
 have Qu:=Lib.hid (Qt.out.trans TB)
 have Cz:Hid (ah (Free o w2) w2 a2 hash.length (hash.map bv)):=hr2
 have UO:=Lib.hid hc2
 have MQ:=Lib.hid (DN hR2 wQ.out XP.out)
 obtain⟨H,Uf⟩:∃H,H=hash.length:=⟨_,rfl⟩
 rw[←Uf]at Cz UO⊢
 have Bd:=Lib.hid Uf
 clear hc2 hr2 hR2 TB DY pK vR Qt Uf
 go_wp2_with fail
 (with_reducible refine MQ.out.mono ?_)
 rintro e w3 ⟨rfl,tO,hs3⟩
 have tF:=Lib.hid (wQ.out.step DK.out hs3)
 have xG:=Lib.hid (HS2.out.step DK.out HJI.out hs3)
 have Bp:=Lib.hid (Qu.out.trans hs3)
 have FQ:=Lib.hid (Cz.out.free DK.out hs3)
 have uJ:=Lib.hid (Tx tO)
 have HR3:=Lib.hid tO
 have hq1:w3.cell? ⟨s,1,none⟩=some (.int .i64 nx):=by
  obtain⟨v,la,lc,vals,h1,_⟩:=xG.out.at_
  rw[MB.out];simp[World.cell?,h1]
 obtain⟨R,hRe⟩:∃R,R=iA s3:=⟨_,rfl⟩
 rw[←hRe]at uJ hle
 have BR:=Lib.hid hRe
 have hRb:(R:Int)≤100000000:=by have:=HSZ.out;omega
 have z1:(R:Int)≤9223372036854775807:=by omega
 have z2:IntKind.u64.wrap (R:Int)=(R:Int):=by simp[IntKind.wrap,IntKind.bits,IntKind.signed];omega
 have z5:IntKind.u64.wrap nx=nx:=by simp[IntKind.wrap,IntKind.bits,IntKind.signed];omega
 clear tO hs3 MQ HS2 wQ Qu Cz hRe
 by_cases hz:R=0
 ·have z3:((R:Int)==0)=true:=by simpa using hz
  have rV:Hid (∀y r,sr=(gJ y++r,0)→¬iP S.next behind y):=fun y r e hg=>by
   obtain⟨g1,g2,g3,g4,g5,g6⟩:=HG.out y r e hg
   have:=BR.out
   omega
  clear hz
  go_wp2_with fail
  (with_reducible refine uJ.out.mono ?_)
  rintro e _ ⟨rfl,rfl⟩
  go_wp2_with fail
  go_ret
  exact .inr ⟨rfl,rV.out,_,Bp.out⟩
 have z3:((R:Int)==0)=false:=by simpa using hz
 by_cases hc:(R:Int)<n
 ·have z4:decide ((R:Int)<n)=true:=decide_eq_true hc
  have rV:Hid (∀y r,sr=(gJ y++r,0)→¬iP S.next behind y):=fun y r e hg=>by
   obtain⟨g1,g2,g3,g4,g5,g6⟩:=HG.out y r e hg
   have k1:=BR.out
   have k2:=MB.out
   have k3:=Bd.out
   have k4:=hg.id
   have k5:=hg.up
   have k6:=hg.hash
   omega
  clear hc
  go_wp2_with fail
  (with_reducible refine uJ.out.mono ?_)
  rintro e _ ⟨rfl,rfl⟩
  go_wp2_with fail
  (with_reducible refine uJ.out.mono ?_)
  rintro e _ ⟨rfl,rfl⟩
  go_wp2_with fail
  go_ret
  exact .inr ⟨rfl,rV.out,_,Bp.out⟩
 have z4:decide ((R:Int)<n)=false:=decide_eq_false hc
 by_cases hc2:nx≤id
 ·have hc:=hc2
  have z6:decide (nx≤id)=true:=decide_eq_true hc
  have rV:Hid (∀y r,sr=(gJ y++r,0)→¬iP S.next behind y):=fun y r e hg=>by
   obtain⟨g1,g2,g3,g4,g5,g6⟩:=HG.out y r e hg
   have k1:=BR.out
   have k2:=MB.out
   have k3:=Bd.out
   have k4:=hg.id
   have k5:=hg.up
   have k6:=hg.hash
   omega
  clear hc hc2
  go_wp2_with fail
  (with_reducible refine uJ.out.mono ?_)
  rintro e _ ⟨rfl,rfl⟩
  go_wp2_with fail
  (with_reducible refine uJ.out.mono ?_)
  rintro e _ ⟨rfl,rfl⟩
  go_wp2_with fail
  go_ret
  exact .inr ⟨rfl,rV.out,_,Bp.out⟩
 have z6:decide (nx≤id)=false:=decide_eq_false hc2
 have z7:IntKind.i64.wrap id=id:=IntWalk.i64_in _ (by omega)
 by_cases hc3:id≤behind
 ·have hc:=hc3
  have z8:decide (id≤behind)=true:=decide_eq_true hc
  have rV:Hid (∀y r,sr=(gJ y++r,0)→¬iP S.next behind y):=fun y r e hg=>by
   obtain⟨g1,g2,g3,g4,g5,g6⟩:=HG.out y r e hg
   have k1:=BR.out
   have k2:=MB.out
   have k3:=Bd.out
   have k4:=hg.id
   have k5:=hg.up
   have k6:=hg.hash
   omega
  clear hc hc3
  go_wp2_with fail
  (with_reducible refine uJ.out.mono ?_)
  rintro e _ ⟨rfl,rfl⟩
  go_wp2_with fail
  (with_reducible refine uJ.out.mono ?_)
  rintro e _ ⟨rfl,rfl⟩
  go_wp2_with fail
  go_ret
  exact .inr ⟨rfl,rV.out,_,Bp.out⟩
 have z8:decide (id≤behind)=false:=decide_eq_false hc3
 by_cases hc4:¬H=32
 ·have hc:=hc4
  have zA:((H:Int) !=32)=true:=by simp;omega
  have zB:((H:Int)==32)=false:=by simp;omega
  have rV:Hid (∀y r,sr=(gJ y++r,0)→¬iP S.next behind y):=fun y r e hg=>by
   obtain⟨g1,g2,g3,g4,g5,g6⟩:=HG.out y r e hg
   have k1:=BR.out
   have k2:=MB.out
   have k3:=Bd.out
   have k4:=hg.id
   have k5:=hg.up
   have k6:=hg.hash
   rw[g2]at k3;omega
  clear hc hc4
  go_wp2_with fail
  (with_reducible refine uJ.out.mono ?_)
  rintro e _ ⟨rfl,rfl⟩
  go_wp2_with fail
  (with_reducible refine uJ.out.mono ?_)
  rintro e _ ⟨rfl,rfl⟩
  go_wp2_with fail
  go_ret
  exact .inr ⟨rfl,rV.out,_,Bp.out⟩
 obtain rfl:H=32:=by omega
 obtain⟨⟨b,s4⟩,n4⟩:∃q,iy s3 n=q:=⟨_,rfl⟩
 obtain⟨y1,y2,y3⟩:=HY.out b s4 (by rw[←BR.out];exact hz) (by rw[←BR.out];omega) n4
 have JX:=Lib.hid (Xf HR3.out tF.out n r3.1 (by omega) n4)
 have Xy:=Lib.hid n4
 have K9:=Lib.hid y1
 have HS4E:=Lib.hid y2
 obtain⟨L,QD⟩:∃L,L=b.length:=⟨_,rfl⟩
 rw[←QD]at y3
 have hLb:L≤100000000:=by omega
 have z9:IntKind.i64.wrap (L:Int)=(L:Int):=IntWalk.i64_in _ (by omega)
 have vH:=Lib.hid QD
 have Nf:=Lib.hid y3
 have z4':decide ((R:Int)<(L:Int))=false:=by rw[←y3];exact z4
 have zC:decide (R<L)=false:=by simpa using z4'
 have zB:L≤R:=by simpa using z4'
 have HGL:Hid (∀y r,sr=(gJ y++r,0)→iP S.next behind y→id=y.id∧hash=y.hash∧b=bZ y.t∧s4=(r,0)):=fun y r e hg=>by
  obtain⟨g1,g2,g3,g4,g5,g6⟩:=HG.out y r e hg
  obtain⟨g7,g8⟩:=TA n4 g3 g4
  exact⟨g1,g2,g7,g8⟩
 have zA:((32:Int)==32)=true:=rfl
 have hidn:behind<id∧id<nx:=by omega
 have HIDN:=Lib.hid hidn
 subst y3
 clear n4 y1 y2 QD hz hc hc2 hc3 hc4 HG HY z4 hidn
 go_wp2_with fail
 (with_reducible refine uJ.out.mono ?_)
 rintro e _ ⟨rfl,rfl⟩
 go_wp2_with fail
 (with_reducible refine uJ.out.mono ?_)
 rintro e _ ⟨rfl,rfl⟩
 go_wp2_with fail
 (with_reducible refine JX.out.mono ?_)
 rintro e w4 ⟨a4,c4,rfl,hc4,hr4,DT,hs4⟩
 rw[←vH.out]at hr4⊢
 have qD:=Lib.hid (tF.out.step DK.out hs4)
 have pI:=Lib.hid (xG.out.step DK.out HJI.out hs4)
 have MC:=Lib.hid (Bp.out.trans hs4)
 have FT:=Lib.hid (FQ.out.free DK.out hs4)
 have kG:Hid (ah (Free o w4) w4 a4 L (b.map bv)):=hr4
 have HR4:=Lib.hid DT
 have G5:=Lib.hid (Ms a4 L c4 b w4 (by omega) hr4)
 clear hc4 hr4 DT hs4 JX uJ xG tF Bp FQ hq1 HR3
 go_wp2_with fail
 (with_reducible refine G5.out.mono ?_)
 intro e w5 hld
 rcases hld with⟨T,p,hpar,hright,rfl,hnt⟩|⟨hno,rfl,hb5⟩
 ·have hkw:=Tz (wH hpar).2 hright
  have hsv:=(wH hpar).1
  have DZ:=Lib.hid hkw
  have QH:=Lib.hid hsv
  have HLS:Hid (∀y r,sr=(gJ y++r,0)→iP S.next behind y→T=y.t):=fun y r e hg=>Mx hpar (HGL.out y r e hg).2.2.1 hg
  have hb5:=hnt.below
  have AO:=Lib.hid (hnt.froz qD.out)
  have DU:=Lib.hid (qD.out.grow hb5)
  have yc:=Lib.hid (pI.out.grow qD.out hb5)
  have Bq:=Lib.hid (MC.out.trans (Step.grow qD.out hb5))
  have Jl:=Lib.hid (FT.out.free (I:=fun _=>False) (fun e=>e) (Step.grow qD.out hb5))
  have rW:=Lib.hid (kG.out.free (I:=fun _=>False) (fun e=>e) (Step.grow qD.out hb5))
  have EK:=Lib.hid (HR4.out.grow qD.out hb5)
  have HC:=Lib.hid (sO AO.out DU.out DZ.out.1)
  clear hpar hright hnt hkw hsv hb5 G5 qD pI MC FT kG HR4
  go_wp2_with fail
  (with_reducible refine HC.out.mono ?_)
  rintro e w6 ⟨q2,rfl,Xz,hb6⟩
  have HSVC:=Lib.hid (ED Xz DZ.out.bf.1 DZ.out.bf.2)
  have Xi:=Lib.hid hb6
  clear Xz hb6 HC
  go_wp2_with fail
  (with_reducible refine HSVC.out.mono ?_)
  rintro e w7 ⟨a7,n7,c7,rfl,hc7,hr7,QI⟩
  have FU:Below w5.heap.size w5 w7:=Xi.out.trans (QI.mono Xi.out.size)
  have Y3:=Lib.hid (AO.out.grow FU)
  have MO:=Lib.hid (DU.out.grow FU)
  have HS7:=Lib.hid (yc.out.grow DU.out FU)
  have TD:=Lib.hid (Bq.out.trans (Step.grow DU.out FU))
  have xC:=Lib.hid (Jl.out.free (I:=fun _=>False) (fun e=>e) (Step.grow DU.out FU))
  have SL:=Lib.hid (EK.out.grow DU.out FU)
  have Vy:=Lib.hid (IX a7 a4 n7 L c7 c4 (bZ (bf T)) b w7 hr7 (rW.out.free (I:=fun _=>False) (fun e=>e) (Step.grow DU.out FU)))
  clear hc7 hr7 QI FU HSVC Xi AO DU yc Bq Jl EK rW
  by_cases hbe:bZ (bf T)=b
  ·rw[decide_eq_true hbe]at Vy
   clear hbe
   go_wp2_with fail
   (with_reducible refine Vy.out.mono ?_)
   rintro e _ ⟨rfl,rfl⟩
   obtain⟨v,la,lc,vals,h1,h2,h3,h4,h5,h6,h7,h8⟩:=HS7.out.at_
   obtain⟨a,c,rfl,hcap⟩:=cO h4
   obtain⟨n,hn⟩:∃n,n=S.l.length:=⟨_,rfl⟩
   have q0:w7.cell? ⟨s,0,none⟩=some (.slice a n c):=by rw[hn];simp[World.cell?,h1]
   obtain⟨i3,hi3⟩:∃i,Tryz.prog.info? 84=some i∧i.zero=some (.agg #[.int .i64 0, .slice none 0 0, .pointer none])∧i.size=3∧i.bytes=40:=info_parts (by kernel_rfl)
   have HI3:=Lib.hid hi3
   have HOW7:Hid (w7.ownsRow 0 84 3 (.slice a n c) n vals):=by rw[hn];exact Lib.hid h4
   have Uk:Hid (∀b,(Value.slice a n c).ownBlock=some b→o b=i∧b≠s∧b<w7.heap.size):=by
    rw[hn];exact Lib.hid h5
   have HH1:Hid (w7.heap[s]? =some (.cells #[.slice a n c, .int .i64 S.next, .slice la S.last.length lc] 80 (0,0))):=by
    rw[hn];exact Lib.hid h1
   have J2:=Lib.hid (And.intro h2 (And.intro h6 (And.intro h7 h8)))
   have pO:n<8:=by have:=Yt.out;omega
   have iM:=Lib.hid hn
   clear h1 h2 h4 h5 h6 h7 h8 hcap hn hi3
   go_wp2_with (at_builtin;refine nA (by rfl) _ _ 78 (by rfl) 0 84 i3 _ 3 40 Tryz.underlying78 HI3.out.1 HI3.out.2.1 HI3.out.2.2.1 HI3.out.2.2.2 rfl (by omega) (.slice a n c) n vals (by rfl) (dh HOW7.out fun b hb hbw=>(wall w7 _).block b hbw) (some ⟨w7.heap.size,0,none⟩) 1 1 [.int .i64 id, .slice a2 32 c2,ptr p] (by rfl) (gH (w:=w7) [.int .i64 id, .slice a2 32 c2,ptr p] 84 (by simp[maxLen])) (by simp[Value.oneCell']) (by unfold maxLen;omega) (by omega) (Nat.zero_le _) ?_;intro A8 c8 w8 qG RQ OB;have BM:w8.heap[s]? =some (.cells #[.slice a n c, .int .i64 S.next, .slice la S.last.length lc] 80 (0,0)):=((RQ.block s (Nat.lt_of_lt_of_le h3 (wall w7 _).size) (fun e=>(Uk.out s e.symm).2.1 rfl)).trans ((wall w7 _).block s h3)).trans HH1.out;have r0:w8.cell? ⟨s,0,none⟩=some (.slice a n c):=bU BM 0;have rf:w8.frozen? ⟨s,0,none⟩=false:=(by simp only[World.frozen?,BM];rfl);have OC:=Lib.hid qG;have HG8:=Lib.hid RQ;have RS:=Lib.hid OB;have Yj:=Lib.hid BM;clear qG RQ OB BM)
   go_ret
   have uE:=wall w7 (.cells #[.int .i64 id, .slice a2 32 c2,ptr p] 84)
   have zu:(w8.setCell ⟨s,0,none⟩ (.slice A8 (n+1) c8)).heap[s]? =some (.cells #[.slice A8 (n+1) c8, .int .i64 S.next, .slice la S.last.length lc] 80 (0,0)):=aG Yj.out
   have hne:∀b,(Value.slice A8 (n+1) c8).ownBlock=some b→b≠s:=fun b hb e=>by
    rcases RS.out with h9|h9
    ·rw[h9]at hb;exact(Uk.out b hb).2.1 e
    ·rw[h9]at hb
     simp only[Option.some.injEq,World.size_alloc]at hb
     omega
   have XF:vP KW o w7 [.int .i64 id, .slice a2 32 c2,ptr p] ⟨id,hash,T⟩:=⟨a2,c2,p,by show _=[Value.int .i64 id, .slice a2 hash.length c2,ptr p];rw[←Bd.out],by show hash.length≤c2;rw[←Bd.out];exact UO.out.1,by show ah _ w7 a2 hash.length _;rw[←Bd.out];exact xC.out,Y3.out,DZ.out⟩
   have k1:Keeps (fun b=>b=s∨(Value.slice a n c).ownBlock=some b) w7 (w7.alloc (.cells #[.int .i64 id, .slice a2 32 c2,ptr p] 84)):=(Keeps.below uE).mono fun z hz hz'=>by omega
   have k2:Keeps (fun b=>b=s∨(Value.slice a n c).ownBlock=some b) (w7.alloc (.cells #[.int .i64 id, .slice a2 32 c2,ptr p] 84)) w8:=(Keeps.grown HG8.out).mono fun z _ hz=>Or.inr hz
   have k3:Keeps (fun b=>b=s∨(Value.slice a n c).ownBlock=some b) w8 (w8.setCell ⟨s,0,none⟩ (.slice A8 (n+1) c8)):=(Keeps.fq w8 ⟨s,0,none⟩ _).mono fun z _ hz=>Or.inl hz
   obtain⟨o9,hst9,hsn9⟩:=Qr (w9:=w8.setCell ⟨s,0,none⟩ (.slice A8 (n+1) c8)) (v:= .slice a n c) (v8:= .slice A8 (n+1) c8) (S:=S) MO.out hi J2.out.1 h3 Uk.out J2.out.2.1 XF J2.out.2.2.1 J2.out.2.2.2 zu (by
     rw[←iM.out]
     exact dh OC.out fun b hb hbw=>aK _ _ _ _ (hne b hb)) (by
     rcases RS.out with h9|h9
     ·exact .inl h9
     ·exact .inr ⟨_,h9,by rw[World.size_alloc];omega⟩) ((k1.trans k2 fun z _ hz=>hz).trans k3 fun z _ hz=>hz)
   obtain⟨r4,hr4e⟩:∃r4,r4=s4.1:=⟨_,rfl⟩
   refine .inl ⟨⟨id,hash,T⟩,s4.1,o9,rfl,?_,⟨HIDN.out.1,by show id<S.next;rw[←MB.out];exact HIDN.out.2,Bd.out.symm⟩,DZ.out,fun y r e hg=> ?_,(TD.out.mono fun k hk=> .inr hk).trans (hst9.mono fun k hk=> .inl hk),hsn9,?_⟩
   ·rw[K9.out]
    unfold gJ
    rw[←QH.out]
   ·obtain⟨g1,g2,g3,g4⟩:=HGL.out y r e hg
    have g5:=HLS.out y r e hg
    obtain⟨yi,yh,yt⟩:=y
    dsimp only at g1 g2 g5
    rw[g1,g2,g5,g4]
    exact⟨rfl,rfl⟩
   ·have h9:=SL.out.step (fun e=>hi e.symm) (fun e=>hij e.symm) hst9
    rw[HS4E.out]at h9
    exact h9
  ·rw[decide_eq_false hbe]at Vy
   have rV:Hid (∀y r,sr=(gJ y++r,0)→¬iP S.next behind y):=fun y r e hg=>by
    have g5:=HLS.out y r e hg
    obtain⟨g1,g2,g3,g4⟩:=HGL.out y r e hg
    refine hbe ?_
    rw[g5,hg.com,←g3]
   clear hbe
   go_wp2_with fail
   (with_reducible refine Vy.out.mono ?_)
   rintro e _ ⟨rfl,rfl⟩
   go_wp2_with fail
   go_ret
   exact .inr ⟨rfl,rV.out,_,TD.out⟩
 ·have rV:Hid (∀y r,sr=(gJ y++r,0)→¬iP S.next behind y):=fun y r e hg=>by
   obtain⟨g1,g2,g3,g4⟩:=HGL.out y r e hg
   exact hno y.t (by rw[g3];exact Am (ig.UE hg.ok.1)) (Iw hg.ok)
  have Bq:=Lib.hid (MC.out.trans (Step.grow qD.out hb5))
  clear hno hb5
  go_wp2_with fail
  go_ret
  exact .inr ⟨rfl,rV.out,_,Bq.out⟩
end
theorem Qv {w:World} {e:TypeId} {size:Nat} {v:Value} {n:Nat} {xs:List Value} (h:w.ownsRow 0 e size v n xs) (hn:0<n):∃b c,v= .slice (some ⟨b,0,none⟩) n c∧n≤c∧c≤maxLen∧∀i u,xs[i]? =some u→w.cell? ⟨b,i,none⟩=some u:=by
 obtain⟨h1,h2⟩:=h
 rcases h2 with⟨h2,rfl⟩|⟨g,cap,cur,h2,hg,hcur,h3,h4,h5,h6⟩
 ·omega
 ·refine⟨g,cap,h2,h3,h4,fun i u hu=> ?_⟩
  simp only[World.cell?,hcur]
  rw[←h6,List.getElem?_take]at hu
  split at hu
  ·simpa using hu
  ·cases hu
section
variable {W w:World} {o:Mark} {i j s p:Nat} {S:jc}
end
structure jU (S:jc):Prop where
 good:rP S
 ok:PW S
 okay:∀x∈S.l,ig x.t
def Xj (o:Mark) (i j:Nat) (w:World) (bs:List UInt8) (e:Ending) (w':World):Prop:=
 (∃s S o',e= .returned (.tuple #[ptr s, .int .i64 0])∧bs=eD S∧SvW S∧(∀R,bs=eD R→jU R→R=S)∧Step o (fun m=>m=i∨m=j) w o' w'∧iT KW o' i w' s S)∨
 (e= .returned (.tuple #[.pointer none, .int .i64 12])∧(∀R,bs=eD R→¬jU R)∧∃o',Step o (fun m=>m=i∨m=j) w o' w')
theorem ME {bs:List UInt8} {s1 s2 s3:Rd} {nx cnt:Int} {last:List UInt8} (n1:aT (bs,0) 8=(nx,s1)) (n2:aF s1=(last,s2)) (n3:aT s2 1=(cnt,s3)) {R:jc} (e:bs=eD R) (h:PW R):
  nx=R.next∧last=R.last∧cnt=(R.l.length:Int)∧s3=(R.l.flatMap gJ,0):=by
 have e8:(256:Int)^8=18446744073709551616:=rfl
 have e1:(256:Int)^1=256:=rfl
 have g2:=h.next
 have g3:=h.few
 have g4:=h.last
 have m1:aT (bs,0) 8=(R.next,(lF R.last++(dR R.l.length 1++R.l.flatMap gJ),0)):=by
  rw[e]
  unfold eD
  rw[List.append_assoc,List.append_assoc]
  exact gF 8 _ _ (by omega) (by omega)
 rw[m1]at n1
 cases n1
 rw[nO _ _ (by omega)]at n2
 cases n2
 rw[gF 1 _ _ (by omega) (by omega)]at n3
 cases n3
 exact⟨rfl,rfl,rfl,rfl⟩
theorem MF {bs:List UInt8} {s1 s2 s3:Rd} {nx cnt:Int} {last:List UInt8} (n1:aT (bs,0) 8=(nx,s1)) (n2:aF s1=(last,s2)) (n3:aT s2 1=(cnt,s3)) (h3:s3.2=0):bs=dR nx 8++lF last++dR cnt 1++s3.1:=by
 have k3:=gI (s:=s2) (k:=1) (by rw[n3];exact h3)
 rw[n3]at k3
 have k2:=kC (s:=s1) (by rw[n2];exact k3.1)
 rw[n2]at k2
 have k1:=gI (s:=(bs,0)) (k:=8) (by rw[n1];exact k2.1)
 rw[n1]at k1
 dsimp only at k1 k2 k3
 rw[k1.2.1,k2.2.1,k3.2.1]
 simp only[List.append_assoc]
theorem MG {bs:List UInt8} {s1 s2 s3:Rd} {nx cnt:Int} {last:List UInt8} (n1:aT (bs,0) 8=(nx,s1)) (n2:aF s1=(last,s2)) (n3:aT s2 1=(cnt,s3)):s3.1.length≤bs.length:=by
 have hn:∀(s:Rd) (k:Nat),(aT s k).2.1.length≤s.1.length:=fun s k=>by
  unfold aT iy
  dsimp only
  split
  ·exact Nat.le_refl _
  ·split
   ·exact Nat.le_refl _
   ·split
    ·exact Nat.le_refl _
    ·dsimp only;rw[List.length_drop];omega
 have hb:∀(s:Rd),(aF s).2.1.length≤s.1.length:=fun s=>by
  refine Nat.le_trans ?_ (hn s 2)
  unfold aF iy
  split
  ·exact Nat.le_refl _
  ·split
   ·exact Nat.le_refl _
   ·split
    ·exact Nat.le_refl _
    ·dsimp only;rw[List.length_drop];omega
 have h1:=hn (bs,0) 8
 have h2:=hb s1
 have h3:=hn s2 1
 rw[n1]at h1
 rw[n2]at h2
 rw[n3]at h3
 dsimp only at h1 h2 h3
 omega
def Xk (W:World) (o:Mark) (i j:Nat) (w:World) (s xr:Nat) (bs last:List UInt8) (nx:Int) (N:Nat) (s3:Rd) (bv' iv:Value) (wr:World):Prop:=
 ∃(acc:List dX) (sr:Rd) (o':Mark) (bh:Int),iv= .int .i64 acc.length∧acc.length≤N∧bv'= .int .i64 bh∧(0≤bh∧bh≤1099511627776)∧Step o (fun m=>m=i∨m=j) w o' wr∧iT KW o' i wr s ⟨acc,nx,last⟩∧DL o' j wr xr sr∧
  s3=(acc.flatMap gJ++sr.1,sr.2)∧(∀x∈acc,(0≤x.id∧x.id≤1099511627776)∧x.hash.length≤64)∧
  ∀R,bs=eD R→jU R→acc=R.l.take acc.length∧sr=((R.l.drop acc.length).flatMap gJ,0)∧∀y,R.l[acc.length]? =some y→bh<y.id
theorem FV {sr:Rd} {acc:List dX} {bh nx:Int} {N:Nat} {R:jc} (hk:acc.length<N) (hN:(N:Int)=(R.l.length:Int)) (hnx:nx=R.next) (hF:jU R) (h2:sr=((R.l.drop acc.length).flatMap gJ,0)) (h3:∀y,R.l[acc.length]? =some y→bh<y.id):
  ∃y,R.l[acc.length]? =some y∧sr=(gJ y++(R.l.drop (acc.length+1)).flatMap gJ,0)∧iP nx bh y∧R.l.take (acc.length+1)=R.l.take acc.length++[y]:=by
 have hl:acc.length<R.l.length:=by omega
 have hg:R.l[acc.length]? =some (R.l[acc.length]'hl):=List.getElem?_eq_getElem hl
 have hm:=List.mem_of_getElem? hg
 have he:=hF.good.each _ hm
 refine⟨_,hg,?_,⟨hF.okay _ hm,he.2.2,by rw[hnx];exact he.1,h3 _ hg,he.2.1⟩,by rw[List.take_succ_eq_append_getElem hl]⟩
 rw[h2,List.drop_eq_getElem_cons hl,List.flatMap_cons]
section
variable {W w:World} {o:Mark} {i j s p:Nat} {S:jc}
set_option maxRecDepth 100000 in
set_option maxHeartbeats 32000000 in
theorem FW {Q:Nat→Prop} (hM:Marks W o w) (hi:i≠0) (hj:j≠0) (hij:i≠j) (a:Option Addr) (n c:Nat) (bs:List UInt8) (hr:ah Q w a n (bs.map bv)) (hsl:bs.length≤90000000):
  Calls Tryz.prog 8 #[.slice a n c] w (Xj o i j w bs):=by
 have hln:bs.length=n:=by simpa using hr.length
 obtain⟨⟨nx,s1⟩,n1⟩:∃q,aT (bs,0) 8=q:=⟨_,rfl⟩
 obtain⟨⟨last,s2⟩,n2⟩:∃q,aF s1=q:=⟨_,rfl⟩
 obtain⟨⟨cnt,s3⟩,n3⟩:∃q,aT s2 1=q:=⟨_,rfl⟩
 have e8:(256:Int)^8=18446744073709551616:=rfl
 have e1:(256:Int)^1=256:=rfl
 have r1:=dS (bs,0) 8
 have r3:=dS s2 1
 rw[n1,e8]at r1
 rw[n3,e1]at r3
 dsimp only at r1 r3
 have HG:Hid (∀R,bs=eD R→jU R→nx=R.next∧last=R.last∧cnt=(R.l.length:Int)∧s3=(R.l.flatMap gJ,0)):=fun R e hF=>ME n1 n2 n3 e hF.ok
 have HBK:=Lib.hid (MF n1 n2 n3)
 have uJ:=Lib.hid (MG n1 n2 n3)
 have HSL:=Lib.hid hsl
 have HN0:=Lib.hid (Xh hM j a n c bs (by omega) hr)
 have HM:=Lib.hid hM
 have Bf:=Lib.hid n1
 have Ur:=Lib.hid n2
 have XP:=Lib.hid n3
 have hj0:¬(fun k=>k=j) 0:=fun e=>hj e.symm
 have hji:¬(fun k=>k=j) i:=fun e=>hij e
 have DK:=Lib.hid hj0
 have HJI:=Lib.hid hji
 obtain⟨N,rfl⟩:∃N:Nat,cnt=N:=⟨cnt.toNat,by omega⟩
 obtain⟨L,QD⟩:∃L,L=last.length:=⟨_,rfl⟩
 have vH:=Lib.hid QD
 clear hM hr n1 n2 n3 hj0 hji QD hln hsl e8 e1
 go_enter Tryz.func8,Tryz.ntmps8
 go_wp2_with fail
 (with_reducible refine HN0.out.mono ?_)
 rintro e w1 ⟨xr,o1,rfl,mo,hs1⟩
 have vR:=Lib.hid (HM.out.step DK.out hs1)
 have Qt:=Lib.hid hs1
 have Jr:=Lib.hid (DN mo vR.out Bf.out)
 clear mo hs1 HN0
 go_wp2_with fail
 (with_reducible refine Jr.out.mono ?_)
 rintro e w2 ⟨rfl,hR2,hs2⟩
 have wQ:=Lib.hid (vR.out.step DK.out hs2)
 have Qu:=Lib.hid (Qt.out.trans hs2)
 have DY:=Lib.hid (FN hR2 wQ.out Ur.out)
 clear hR2 hs2 Jr vR Qt
 go_wp2_with fail
 (with_reducible refine DY.out.mono ?_)
 rintro e w3 ⟨a3,c3,rfl,hc3,hr3,tO,hs3⟩
 have tF:=Lib.hid (wQ.out.step DK.out hs3)
 have Bp:=Lib.hid (Qu.out.trans hs3)
 have FQ:Hid (ah (Free o1 w3) w3 a3 last.length (last.map bv)):=hr3
 have UQ:=Lib.hid hc3
 have MQ:=Lib.hid (Tw tO tF.out XP.out)
 rw[←vH.out]
 clear hc3 hr3 tO hs3 DY wQ Qu
 go_wp2_with fail
 (with_reducible refine MQ.out.mono ?_)
 rintro e w4 ⟨rfl,DT,hs4⟩
 have qD:=Lib.hid (tF.out.step DK.out hs4)
 have MC:=Lib.hid (Bp.out.trans hs4)
 have FT:=Lib.hid (FQ.out.free DK.out hs4)
 have HR4:=Lib.hid DT
 clear DT hs4 MQ tF Bp FQ
 obtain⟨nw,hnw⟩:∃nw,nw=wrap64 nx:=⟨_,rfl⟩
 obtain⟨w5,LW⟩:∃w5,w5=w4.alloc (.cells #[.slice none 0 0, .int .i64 nw, .slice a3 L c3] 80):=⟨_,rfl⟩
 have hb5:Below w4.heap.size w4 w5:=by rw[LW];exact wall w4 _
 have F7:w5.heap.size=w4.heap.size+1:=by rw[LW];simp
 have hsb:w5.heap[w4.heap.size]? =some (.cells #[.slice none 0 0, .int .i64 nw, .slice a3 L c3] 80 (0,0)):=by rw[LW];exact(MapKept.heap_alloc w4 _).1
 obtain⟨o5,hs5,m1,m2⟩:=jd qD.out i (fun b=>b=w4.heap.size) (w':=w5) (fun b hb=>by subst hb;exact⟨Nat.le_refl _,by omega⟩) hb5
 have hi0:¬(fun k=>k=i) 0:=fun e=>hi e.symm
 have Bq:Hid (Step o (fun m=>m=i∨m=j) w o5 w5):=(MC.out.mono fun k hk=> .inr hk).trans (hs5.mono fun k hk=> .inl hk)
 have EK:=Lib.hid (HR4.out.step hi0 (fun e=>hij e.symm) hs5)
 have HSN5:Hid (iT KW o5 i w5 w4.heap.size ⟨[],nw,last⟩):=by
  refine⟨.slice none 0 0,a3,c3,[],?_,m1 _ rfl,by omega,⟨rfl, .inl ⟨rfl,rfl⟩⟩,fun b hb=>by simp[Value.ownBlock]at hb,rfl,UQ.out.1,?_⟩
  ·show _=some (Obj.cells #[.slice none 0 0, .int .i64 nw, .slice a3 last.length c3] _ _)
   rw[←vH.out]
   exact hsb
  ·exact FT.out.free hi0 hs5
 have AA:=Lib.hid LW
 have HNW:=Lib.hid hnw
 clear LW hb5 F7 hsb hs5 m1 m2 hi0 qD MC FT HR4 UQ
 go_upto_if 25 with(fail)
 rw[←HNW.out,←AA.out]
 clear AA hnw
 go_cut [9] (fun wv wx=>∃want:Nat,wv= .int .i64 want∧(want=if nx=1 then 0 else 32)∧w5=wx)
 case first=>
  by_cases h1:nx=1
  ·have d1:(nx==1)=true:=by simpa using h1
   have d1':decide (nx=1)=true:=decide_eq_true h1
   clear h1
   go_wp2_with fail
   go_meet
   have h1:=of_decide_eq_true d1'
   exact⟨0,rfl,by rw[if_pos h1],rfl⟩
  ·have d1:(nx==1)=false:=by simpa using h1
   have d1':decide (nx=1)=false:=decide_eq_false h1
   clear h1
   go_wp2_with fail
   go_meet
   have h1:=of_decide_eq_false d1'
   exact⟨32,rfl,by rw[if_neg h1],rfl⟩
 case rest=>
  obtain⟨want,rfl,hwant,rfl⟩:=hcut
  have HWT:=Lib.hid hwant
  clear hwant
  by_cases q1:nx<1
  ·have d1:decide (nx<1)=true:=decide_eq_true q1
   have rV:Hid (∀R,bs=eD R→¬jU R):=fun R e hF=>by
    obtain⟨g1,g2,g3,g4⟩:=HG.out R e hF
    have:=hF.good.next
    omega
   clear q1
   go_wp2_with fail
   go_ret2
   exact .inr ⟨rfl,rV.out,_,Bq.out⟩
  have d1:decide (nx<1)=false:=decide_eq_false q1
  by_cases q2:1099511627776<nx
  ·have d2:decide (1099511627776<nx)=true:=decide_eq_true q2
   have rV:Hid (∀R,bs=eD R→¬jU R):=fun R e hF=>by
    obtain⟨g1,g2,g3,g4⟩:=HG.out R e hF
    have:=hF.ok.next
    omega
   clear q1 q2
   go_wp2_with fail
   go_ret2
   exact .inr ⟨rfl,rV.out,_,Bq.out⟩
  have d2:decide (1099511627776<nx)=false:=decide_eq_false q2
  by_cases q3:¬L=want
  ·have d3:((L:Int) !=(want:Int))=true:=by simp;omega
   have d3':((L:Int)==(want:Int))=false:=by simp;omega
   have rV:Hid (∀R,bs=eD R→¬jU R):=fun R e hF=>by
    obtain⟨g1,g2,g3,g4⟩:=HG.out R e hF
    have k1:=hF.good.last
    have k2:=HWT.out
    have k3:=vH.out
    rw[g2]at k3
    by_cases h1:nx=1
    ·rw[if_pos h1]at k2
     rw[k1.1 (by omega)]at k3
     exact q3 (by rw[k2,k3];rfl)
    ·rw[if_neg h1]at k2
     rw[k1.2 (by omega)]at k3
     exact q3 (by omega)
   clear q1 q2 q3
   go_wp2_with fail
   go_ret2
   exact .inr ⟨rfl,rV.out,_,Bq.out⟩
  have q3:L=want:=Decidable.not_not.1 q3
  subst q3
  have d3:((L:Int) !=(L:Int))=false:=by simp
  have d3':((L:Int)==(L:Int))=true:=by simp
  by_cases q4:8<N
  ·have d4:decide ((8:Int)<(N:Int))=true:=by simp;omega
   have rV:Hid (∀R,bs=eD R→¬jU R):=fun R e hF=>by
    obtain⟨g1,g2,g3,g4⟩:=HG.out R e hF
    have:=hF.ok.few
    omega
   clear q1 q2 q4
   go_wp2_with fail
   go_ret2
   exact .inr ⟨rfl,rV.out,_,Bq.out⟩
  have d4:decide ((8:Int)<(N:Int))=false:=by simp;omega
  obtain rfl:nw=nx:=by rw[HNW.out];unfold wrap64;omega
  have hL32:L≤32:=by
   have k2:=HWT.out
   split at k2<;>omega
  have HL32:=Lib.hid hL32
  clear HNW hL32
  go_wp2_with fail
  go_loopw [10,43] (fun bv' iv wr=>Xk W o i j w w4.heap.size xr bs last nw N s3 bv' iv wr) (fun _ iv _=>N-(intOf iv).toNat)
  case atStart=>
   refine⟨[],s3,o5,0,rfl,Nat.zero_le _,rfl,⟨by omega,by omega⟩,Bq.out,HSN5.out,EK.out,by simp,fun x hx=>by simp at hx,fun R e hF=>⟨rfl,?_,fun y hy=> ?_⟩⟩
   ·exact(HG.out R e hF).2.2.2
   ·have:=(hF.good.each y (List.mem_of_getElem? hy)).1.1
    omega
  case round=>
   obtain⟨acc,sr,o6,bh,rfl,hk,rfl,hb0,hst,hsn,hrd,hs3,hacc,hgd⟩:=hrel
   obtain⟨k,hkE⟩:∃k,k=acc.length:=⟨_,rfl⟩
   have Qw:=Lib.hid hkE
   have HST:=Lib.hid hst
   have HSN:=Lib.hid hsn
   have PO:=Lib.hid hrd
   have xG:=Lib.hid hs3
   have HACC:=Lib.hid hacc
   have JZ:=Lib.hid hgd
   have hI0:¬(fun m=>m=i∨m=j) 0:=fun e=>by rcases e with e|e<;>omega
   have Xc:=Lib.hid (HM.out.step hI0 hst)
   have HI0:=Lib.hid hI0
   rw[←hkE]at hk⊢
   clear hst hsn hrd hI0 hs3 hacc hgd hkE
   by_cases hlt:k<N
   ·have hsz:sr.1.length≤100000000:=by
     have h1:=uJ.out
     rw[xG.out]at h1
     simp only[List.length_append]at h1
     have:=HSL.out
     omega
    have BR:=Lib.hid (FP HSN.out Xc.out hi hj hij sr xr PO.out ⟨by show 1≤nw;omega,by show nw≤_;omega⟩ (by show acc.length<8;rw[←Qw.out];omega) bh hb0 hsz)
    have xJ:=Lib.hid hlt
    have hd5:decide ((k:Int)<(N:Int))=true:=by simpa using hlt
    have HBH:=Lib.hid hb0
    clear hsz hb0
    go_wp2_with fail
    (with_reducible refine BR.out.mono ?_)
    intro e w7 h7
    rcases h7 with⟨x,rest,o7,rfl,hsr,⟨b1,b2,b3⟩,hkx,huq,MH,Xl,hrd7⟩|⟨rfl,hno,o7,MH⟩
    ·have TD:=Lib.hid (HST.out.trans MH)
     have MO:=Lib.hid (Xc.out.step HI0.out MH)
     have HSN7:=Lib.hid Xl
     have HRD7:=Lib.hid hrd7
     have K9:=Lib.hid hsr
     have HUQ:=Lib.hid huq
     have HB3:=Lib.hid b3
     have HB12:=Lib.hid (And.intro b1 b2)
     obtain⟨v,la,lc,vals,h1,h2,h3,h4,h5,h6,h7,h8⟩:=Xl.at_
     dsimp only at h4 h6
     have hlk:(acc++[x]).length=k+1:=by rw[List.length_append,Qw.out];rfl
     rw[hlk]at h4
     obtain⟨b,c9,rfl,QA,hcm,hcell⟩:=Qv h4 (by omega)
     obtain⟨_,_,_,hv0,-⟩:=h6.at_ (k:=k) (x:=x) (by rw[Qw.out,List.getElem?_append_right (Nat.le_refl _),Nat.sub_self];rfl)
     have qs:w7.cell? ⟨w4.heap.size,0,none⟩=some (.slice (some ⟨b,0,none⟩) (k+1) c9):=by simp[World.cell?,h1,hlk]
     have qx:w7.cell? ⟨b,k*3,none⟩=some (.int .i64 x.id):=hcell _ _ hv0
     have zk:IntKind.i64.wrap ((((k+1:Nat)):Int)-1)=(k:Int):=by rw[IntWalk.i64_in _ (by omega)];omega
     have zk2:IntKind.i64.wrap ((k:Int)+1-1)=(k:Int):=by rw[IntWalk.i64_in _ (by omega)];omega
     have zk3:(0:Int)≤(k:Int):=by omega
     have zk4:(k:Int)<((k+1:Nat):Int):=by omega
     have zk5:(k:Int)<(k:Int)+1:=by omega
     clear h1 h2 h3 h4 h5 h6 h7 h8 QA hcm hcell hv0 hlk MH Xl hrd7 BR HSN PO HST Xc hsr huq b1 b2 b3 hkx
     go_wp2_with fail
     go_quiet (fail)
     go_wp2_with fail
     have hbq:Below w7.heap.size w7 (w7.drewN nq):=⟨rfl,rfl,rfl,Nat.le_refl _,fun _ _=>rfl⟩
     go_roundw
     case rel=>
      have hidr:0≤x.id∧x.id≤1099511627776:=by
       obtain⟨k1,k2⟩:=HB12.out
       have k2:x.id<nw:=k2
       have k3:=HBH.out
       omega
      refine⟨acc++[x],(rest,0),o7,x.id,?_,?_,rfl,hidr,TD.out.trans (Step.grow MO.out hbq),HSN7.out.grow MO.out hbq,HRD7.out.grow MO.out hbq,?_,fun y hy=> ?_,fun R e hF=> ?_⟩
      ·rw[List.length_append,←Qw.out];go_num
      ·rw[List.length_append,←Qw.out];have:=xJ.out;simp;omega
      ·rw[xG.out,K9.out]
       simp only[List.flatMap_append,List.flatMap_cons,List.flatMap_nil,List.append_nil,List.append_assoc]
      ·rcases List.mem_append.1 hy with hy|hy
       ·exact HACC.out y hy
       ·obtain rfl:y=x:=by simpa using hy
        exact⟨hidr,by have:=HB3.out;omega⟩
      ·obtain⟨k1,k2,k3⟩:=JZ.out R e hF
       obtain⟨g1,g2,g3,g4⟩:=HG.out R e hF
       obtain⟨y,hy,hsr,hg,htk⟩:=FV (by have:=Qw.out;have:=xJ.out;omega) g3 g1 hF k2 k3
       obtain⟨rfl,hrest⟩:=HUQ.out y _ hsr hg
       have hl1:(acc++[y]).length=acc.length+1:=by simp
       rw[hl1]
       refine⟨by rw[htk,←k1],by rw[hrest],fun z hz=> ?_⟩
       obtain⟨hk1,e1⟩:=List.getElem?_eq_some_iff.1 hz
       obtain⟨hk0,e0⟩:=List.getElem?_eq_some_iff.1 hy
       have:=List.pairwise_iff_getElem.1 hF.good.up acc.length (acc.length+1) hk0 hk1 (by omega)
       rw[e0,e1]at this
       exact this
     case measure=>have:=xJ.out;simp[intOf];omega
    ·have rV:Hid (∀R,bs=eD R→¬jU R):=fun R e hF=>by
      obtain⟨k1,k2,k3⟩:=JZ.out R e hF
      obtain⟨g1,g2,g3,g4⟩:=HG.out R e hF
      obtain⟨y,hy,hsr,hg,htk⟩:=FV (by have:=Qw.out;have:=xJ.out;omega) g3 g1 hF k2 k3
      exact hno y _ hsr hg
     have HSTF:Hid (Step o (fun m=>m=i∨m=j) w o7 w7):=HST.out.trans (MH.mono fun k hk=> .inr hk)
     clear hno MH BR
     go_wp2_with fail
     go_ret2
     exact .inr ⟨rfl,rV.out,_,HSTF.out⟩
   ·obtain rfl:k=N:=by omega
    have hd5:decide ((k:Int)<(k:Int))=false:=by simp
    have HE:=Lib.hid (Xg PO.out)
    by_cases hen:mO sr=0
    ·obtain⟨z1,z2⟩:=Ai hen
     rw[hen]at HE
     have Tk:s3=(acc.flatMap gJ,0):=by rw[xG.out,z1,z2,List.append_nil]
     have hfin:bs=eD ⟨acc,nw,last⟩:=by
      rw[HBK.out (by rw[Tk]),Tk]
      unfold eD
      dsimp only
      rw[←Qw.out]
     have iX:=Lib.hid hfin
     have HSVW:Hid (SvW ⟨acc,nw,last⟩):=⟨by show acc.length≤8;rw[←Qw.out];omega,by show last.length≤64;rw[←vH.out];have:=HL32.out;omega,⟨by show 0≤nw;omega,by show nw≤_;omega⟩,HACC.out⟩
     have HUN:Hid (∀R,bs=eD R→jU R→R=⟨acc,nw,last⟩):=fun R e hF=>by
      obtain⟨g1,g2,g3,g4⟩:=HG.out R e hF
      obtain⟨k1,k2,k3⟩:=JZ.out R e hF
      obtain⟨Rl,Rn,Rs⟩:=R
      dsimp only at g1 g2 g3 k1
      rw[←Qw.out,List.take_of_length_le (by omega)]at k1
      rw[k1,g1,g2]
     clear hen z1 z2 Tk hfin
     go_wp2_with fail
     (with_reducible refine HE.out.mono ?_)
     rintro e _ ⟨rfl,rfl⟩
     go_wp2_with fail
     go_ret2
     exact .inl ⟨_,_,o6,rfl,iX.out,HSVW.out,HUN.out,HST.out,HSN.out⟩
    ·have rV:Hid (∀R,bs=eD R→¬jU R):=fun R e hF=>by
      obtain⟨g1,g2,g3,g4⟩:=HG.out R e hF
      obtain⟨k1,k2,k3⟩:=JZ.out R e hF
      refine hen ?_
      rw[k2,List.drop_of_length_le (by have:=Qw.out;omega)]
      rfl
     have d9:(mO sr !=0)=true:=by simpa using hen
     have d8:(mO sr==0)=false:=by simpa using hen
     clear hen
     go_wp2_with fail
     (with_reducible refine HE.out.mono ?_)
     rintro e _ ⟨rfl,rfl⟩
     go_wp2_with fail
     go_ret2
     exact .inr ⟨rfl,rV.out,_,HST.out⟩
theorem Xm (hM:Marks W o w):∃i j,i≠0∧j≠0∧i≠j∧(∀b,o b≠i)∧∀b,o b≠j:=by
 have key:∀b,o b≤((List.range w.heap.size).map o).sum:=fun b=>by
  by_cases h0:o b=0
  ·omega
  ·exact GZ o w.heap.size b (hM.new b h0).2
 exact⟨((List.range w.heap.size).map o).sum+1,((List.range w.heap.size).map o).sum+2,by omega,by omega,by omega,fun b=>by have:=key b;omega,fun b=>by have:=key b;omega⟩
def Xn (W:World) (o:Mark) (w:World) (bs:List UInt8) (e:Ending) (w':World):Prop:=
 (∃s S o' i,e= .returned (.tuple #[ptr s, .int .i64 0])∧bs=eD S∧SvW S∧(∀R,bs=eD R→jU R→R=S)∧Below w.heap.size w w'∧Marks W o' w'∧iT KW o' i w' s S∧∃j,i≠0∧j≠0∧Step o (fun m=>m=i∨m=j) w o' w')∨
 (e= .returned (.tuple #[.pointer none, .int .i64 12])∧(∀R,bs=eD R→¬jU R)∧Below w.heap.size w w')
theorem xD {Q:Nat→Prop} (hM:Marks W o w) (a:Option Addr) (n c:Nat) (bs:List UInt8) (hr:ah Q w a n (bs.map bv)) (hsl:bs.length≤90000000):
  Calls Tryz.prog 8 #[.slice a n c] w (Xn W o w bs):=by
 obtain⟨i,j,hi,hj,hij,hfi,hfj⟩:=Xm hM
 refine(FW hM hi hj hij a n c bs hr hsl).mono ?_
 rintro e w' (⟨s,S,o',rfl,h1,h2,h3,hst,hsn⟩|⟨rfl,h1,o',hst⟩)
 ·exact .inl ⟨s,S,o',i,rfl,h1,h2,h3,hst.keep.fD (Nat.le_refl _) fun x _ hx=>hx.elim (hfi x) (hfj x),hM.step (fun h=>h.elim (fun e=>hi e.symm) fun e=>hj e.symm) hst,hsn,j,hi,hj,hst⟩
 ·exact .inr ⟨rfl,h1,hst.keep.fD (Nat.le_refl _) fun x _ hx=>hx.elim (hfi x) (hfj x)⟩
end
theorem xor8 (x y:Int):∃z:UInt8,bits .xor .u8 x y=(z.toNat:Int):=by
 refine⟨UInt8.ofNat (bits .xor .u8 x y).toNat,?_⟩
 have h:0≤bits .xor .u8 x y∧bits .xor .u8 x y<256:=by
  unfold bits
  simp only[IntKind.wrap,IntKind.bits,IntKind.signed]
  simp
  omega
 rw[UInt8.toNat_ofNat']
 omega
theorem bdq {B:Nat} {a w:World} (h:Below B a w) (n:Nat):Below B a (w.drewN n):=h.trans ⟨rfl,rfl,rfl,Nat.le_refl _,fun _ _=>rfl⟩
theorem Qx {w:World} {base:Nat} {e:TypeId} {a:Option Addr} {c n:Nat} {xs:List Value} (h:w.ownsRow base e 1 (.slice a n c) n xs) (h0:0<n):∃g cur,a=some ⟨g,0,none⟩∧base≤g∧g<w.heap.size∧w.heap[g]? =some (.cells cur e (0,0))∧ah (fun x=>x=g) w a n xs∧n≤c:=by
 have hr:=(ah.lg h).2
 rcases h.2 with⟨h1,_⟩|⟨g,cap,cur,h1,hg,hcur,hcap,_⟩
 ·cases h1;omega
 ·cases h1
  refine⟨g,cur,rfl,hg,(Array.getElem?_eq_some_iff.1 hcur).1,hcur,⟨hr.length,hr.small,fun h0=> ?_⟩,hcap⟩
  obtain⟨b,off,e1,hS,hb,hc⟩:=hr.at_ h0
  cases e1
  exact⟨_,_,rfl,rfl,hb,hc⟩
def TF (w:World) (v:Value):Prop:=∃a n c y,v= .slice a n c∧n≤c∧n≤85000000∧ah (fun b=>b<w.heap.size) w a n ((y:List UInt8).map bv)
end Go.Proofs.YtjnhnlabpccgjaaGreat
