/- package -/
import Derived.Test.YthillkfmdndedaaGreatDoorM32
set_option maxRecDepth 100000
set_option maxHeartbeats 64000000
set_option linter.all false
namespace Go.Proofs.YthillkfmdndedaaGreatDoor
open Go.ChangeShapes Go.WideShapes Go.ChangeAt Go.RowKit
structure Rz where
 index:Int
 first:Int
 count:Int
 bytes:Int
 prev:List UInt8
 root:List UInt8
def CZ(x:Rz)(m:Mx)(u:Nat)(z:Mx)(y:Nat):Array Value:= #[.int .i64 x.index,.int .u64 x.first,.int .i64 x.count,.int .i64 x.bytes,.slice m 32 u,.slice z 32 y]
structure UD(x:Rz):Prop where
 index:0<=x.index/\x.index<=65535
 first:0<=x.first/\x.first<=1099511627776
 count:0<=x.count/\x.count<=65535
 bytes:0<=x.bytes/\x.bytes<=65535
 prev:x.prev.length=32
 root:x.root.length=32
def uP(x:Rz):List UInt8:=bF 2 1++bF x.index 2++bF x.first 8++bF x.count 2++x.prev++x.root
theorem BZ{x:Rz}(h:UD x):(uP x).length=77:=by simp[uP,ay,h.prev,h.root]
theorem IK(a:Mx)(c:Nat)(w:World):Dy 241 #[.slice a 32 c] w λ e w'=>e= .returned (.slice a 32 c)/\w=w':=by
 go_enter Tryz.func241,Tryz.ntmps241;go_wp2_with fail;go_ret;exact⟨rfl,rfl⟩
theorem UE{S S':Nat->Prop}(x:Rz)(h:UD x)(G K:Mx)(P O:Nat)(w:World)(hp:ah S w G 32 (x.prev.map bv))(hr:ah S' w K 32 (x.root.map bv)):Dy 207 #[.agg (CZ x G P K O)] w (gH w (uP x)):=by
 have g1:=h.index;have g2:=h.first;have g3:=h.count;have aC:=acp (fB hp);have ak:=acp (fB hr);have hl:=BZ h;have rW:=acp h.prev;have HX:acr (uP x=[]++bF 2 1++bF x.index 2++bF x.first 8++bF x.count 2++x.prev++x.root):=by show uP x=_;unfold uP;simp
 unfold CZ;obtain⟨F,C⟩:∃F,F=w.alloc (.cells #[.int .i64 x.index,.int .u64 x.first,.int .i64 x.count,.int .i64 x.bytes,.slice G 32 P,.slice K 32 O] 150):=⟨_,rfl⟩;have y:acr (Below w.heap.size w F):=by rw[C];exact wall w _
 have M:F.heap[w.heap.size]? =some (.cells #[.int .i64 x.index,.int .u64 x.first,.int .i64 x.count,.int .i64 x.bytes,.slice G 32 P,.slice K 32 O] 150 (0,0)):=by rw[C];exact(MapKept.heap_alloc w _).1
 have aD:w.heap.size<F.heap.size:=(qW.1 M).1;have U:acr (∀u,Below F.heap.size F u->u.cell? ⟨w.heap.size,0,none⟩=some (.int .i64 x.index)/\u.cell? ⟨w.heap.size,1,none⟩=some (.int .u64 x.first)/\u.cell? ⟨w.heap.size,2,none⟩=some (.int .i64 x.count)/\u.cell? ⟨w.heap.size,4,none⟩=some (.slice G 32 P)/\u.cell? ⟨w.heap.size,5,none⟩=some (.slice K 32 O)):=λ u hb=>by
  have h1:=(hb.block w.heap.size aD).trans M;refine⟨?_,?_,?_,?_,?_⟩<;>simp[World.cell?,h1]
 have Z:=acp C;clear h hp hr C M;go_enter Tryz.func207,Tryz.ntmps207;go_wp2_with fail;rw[<-Z.o];refine(fG F).mono ?_;rintro e w3 ⟨rfl,V,R⟩;have I:=acp V;have Q:=acp R;clear V R;go_wp2_with fail;refine(qo I.o 2 (by omega) (by omega) (by simp)).mono ?_;intro e w4 m;obtain⟨rfl,x4,OP,N⟩:=dx.more I.o Q.o m;have zQ:=acp OP;have dI:=acp N;obtain⟨A,B,E,D,z⟩:=U.o w4 N;clear m OP N I Q;go_wp2_with fail;refine(dH zQ.o x.index g1.1 (by omega) (by simp[ay])).mono ?_;intro e w5 m;obtain⟨rfl,x5,Rp,H⟩:=dx.more zQ.o dI.o m;have xS:=acp Rp;have dK:=acp H;clear A B E D z;obtain⟨A,B,E,D,z⟩:=U.o w5 H;clear m Rp H zQ dI;go_wp2_with fail;refine(jB xS.o x.first g2.1 (by omega) (by simp[ay])).mono ?_;intro e w6 m;obtain⟨rfl,x6,NG,J⟩:=dx.more xS.o dK.o m;have Bq:=acp NG;have nP:=acp J;clear A B E D z;obtain⟨A,B,E,D,z⟩:=U.o w6 J;clear m NG J xS dK;go_wp2_with fail;refine(dH Bq.o x.count g3.1 (by omega) (by simp[ay])).mono ?_;intro e w7 m;obtain⟨rfl,x7,W,Y⟩:=dx.more Bq.o nP.o m;have CG:=acp W;have nE:=acp Y;clear A B E D z;obtain⟨A,B,E,D,z⟩:=U.o w7 Y;have uW:=acp (aC.o.below (y.o.trans (Y.mono y.o.size)) acs);clear m W Y Bq nP;go_wp2_with fail;refine(IK G P w7).mono ?_;rintro e _ ⟨rfl,rfl⟩;go_wp2_with fail;refine(gZ CG.o G 32 P x.prev uW.o (by simp[ay]) (by omega)).mono ?_;intro e w8 m;obtain⟨rfl,x8,Vy,X⟩:=dx.more CG.o nE.o m;have Gv:=acp Vy;have qY:=acp X;clear A B E D z;obtain⟨A,B,E,D,z⟩:=U.o w8 X;have Gd:=acp (ak.o.below (y.o.trans (X.mono y.o.size)) acs);clear m Vy X CG nE uW;go_wp2_with fail;refine(IK K O w8).mono ?_;rintro e _ ⟨rfl,rfl⟩;go_wp2_with fail;refine(gZ Gv.o K 32 O x.root Gd.o (by simp[ay,rW.o]) (by omega)).mono ?_;intro e w9 m;obtain⟨rfl,x9,uq,dG⟩:=dx.more Gv.o qY.o m;rw[<-HX.o]at uq;have O9:=acp uq;have pK:=acp dG;clear m uq dG Gv qY Gd A B E D z;go_wp2_with fail;refine(iZ O9.o (by omega)).mono ?_;rintro e wA ⟨aA,nA,cA,rfl,aB,Yd,Dv⟩;have Rv:=acp Yd;have sU:=acp Dv;clear Yd Dv;go_wp2_with fail;go_ret;have av:=y.o.size;have yN:=pK.o.size;exact⟨aA,nA,cA,rfl,aB,Rv.o.mono λ b hb=>⟨by omega,hb.2⟩,(y.o.trans (pK.o.mono av)).trans (sU.o.mono (by omega))⟩
theorem P5{S S':Nat->Prop}(x:Rz)(h:UD x)(B C:Mx)(G D:Nat)(w:World)(P:ah S w B 32 (x.prev.map bv))(R:ah S' w C 32 (x.root.map bv)):Dy 157 #[.agg (CZ x B G C D)] w (gH w (jh (uP x))):=by
 have hl:=BZ h;have m:=acp (UE x h B C G D (w.alloc (.cells (CZ x B G C D) 150)) (P.below (wall w _) acs) (R.below (wall w _) acs));have u:=acp (wall w (.cells (CZ x B G C D) 150));unfold CZ at m u⊢;obtain⟨O,y⟩:∃O,O=w.alloc (.cells #[.int .i64 x.index,.int .u64 x.first,.int .i64 x.count,.int .i64 x.bytes,.slice B 32 G,.slice C 32 D] 150):=⟨_,rfl⟩;rw[<-y]at m u;have K:=acp y;clear h P R y;go_enter Tryz.func157,Tryz.ntmps157;go_wp2_with fail;rw[<-K.o];refine m.o.mono ?_;rintro e X ⟨a2,Q,Y,rfl,N,z,E⟩;have U:Q<=77:=by have:=z.length;rw[List.length_map]at this;omega
 have V:=acp (xH a2 Q Y (uP x) X z (by omega) N);have A:=acp (u.o.trans (E.mono u.o.size));clear z E m;go_wp2_with fail;refine V.o.mono ?_;rintro e w3 ⟨a3,n3,W,rfl,I,H,F⟩;have M:=acp H;have J:=acp (A.o.trans (F.mono A.o.size));have ak:=A.o.size;clear H F;go_wp2_with fail;go_ret;exact⟨a3,n3,W,rfl,I,M.o.mono λ b Z=>⟨by omega,Z.2⟩,J.o⟩
